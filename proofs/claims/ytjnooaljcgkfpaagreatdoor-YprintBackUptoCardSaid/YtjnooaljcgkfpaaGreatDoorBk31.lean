import Derived.Test.YtjnooaljcgkfpaaGreatDoorBk18
import Derived.Test.YtjnooaljcgkfpaaGreatDoorBk30
import Derived.Test.YtjnooaljcgkfpaaGreatDoorBk13
import Derived.Test.YtjnooaljcgkfpaaGreatDoorBk8
set_option maxRecDepth 100000
set_option maxHeartbeats 1000000
namespace Go.Proofs.YtjnooaljcgkfpaaGreatDoor
set_option linter.unusedVariables false
set_option linter.unusedSimpArgs false
section
open Go.RowKit
open Go.Lib hiding intOf
mutual
def jJ:VT->Nat->aA
 | .mk k s ks l,ind=>if l.isEmpty then 32::((cZ (.mk k s ks l)).1++ [10]) else 10::(if k=6 then iG l ks (ind+2) else iH l (ind+2))
def iH:List VT->Nat->aA
 | [],_=> []
 | x::l,ind=>(List.replicate ind 32++ [45]++jJ x ind)++iH l ind
def iG:List VT->List aA->Nat->aA
 | [],_,_=> []
 | x::l,ks,ind=>(List.replicate ind 32++((eD (ks.headD [])).1++ [58])++jJ x ind)++iG l ks.tail ind
end
def pD (t:VT) (ind:Nat):aA:=if t.kind=6 then iG t.items t.keys ind else iH t.items ind
theorem aEy (t:VT) (ind:Nat):jJ t ind=(if t.items.isEmpty then 32::((cZ t).1++ [10]) else 10::pD t (ind+2)):=by cases t;rw[jJ];rfl
theorem Sy (a:List VT) (x:VT) (ind:Nat):iH (a++ [x]) ind=iH a ind++(List.replicate ind 32++ [45]++jJ x ind):=by
 induction a with
 | nil=>simp[iH]
 | cons y a ih=>rw[cU,iH,iH,ih];simp only[dY]
theorem Sz (a:List VT) (x:VT) (ind:Nat): ∀(ks:List aA) (k:aA),ks[a.length]?=some k->iG (a++ [x]) ks ind=iG a ks ind++(List.replicate ind 32++((eD k).1++ [58])++jJ x ind):=by
 induction a with
 | nil=>
  intro ks k b;cases ks with
  | nil=>simp at b
  | cons k0 ks=>simp at b;subst b;simp[iG]
 | cons y a ih=>
  intro ks k b;cases ks with
  | nil=>simp at b
  | cons k0 ks=>
   rw[cU,iG,iG];simp only[List.tail_cons];rw[ih ks k (by simpa using b)];simp only[dY]
theorem aEz (s:aA):(fR s).1.length<=2*s.length+2:=by
 unfold fR;split
 ·simp
 ·have:=(Er s).2;simp only[aL,aI,bY];omega
theorem Ta (s:aA):(jS s).1.length<=336*s.length+172:=by
 unfold jS;split
 ·have:=aEz s;omega
 ·have h1:=Mv (dZ s).1;have h2:=tY s;simp only[];omega
theorem Hr (s:aA):(eD s).1.length<=336*s.length+172:=by
 unfold eD;split
 ·split
  ·simp only[];omega
  ·exact Ta s
 ·simp
theorem Hs (t:VT):(cZ t).1.length<=700*t.bulk+172:=by
 have h1:=vZ t;have h2:=Mv (fE t);have h3:=Ta t.text;have hbt:t.text.length<t.bulk:=by cases t;rw[VT.bulk];simp only[VT.text];omega
 unfold cZ;split
 ·split
  ·split
   ·simp only[];omega
   ·omega
  ·simp only[];omega
 ·simp
mutual
theorem Ck: ∀(t:VT) (ind:Nat),ind+2*t.depth<=1024->(jJ t ind).length<=2100*t.bulk-1200
 | .mk k s ks l,ind,h=>by
  rw[VT.depth] at h;have h1:=Hs (.mk k s ks l);have h2:=Tb l (ind+2) (by omega);have h3:=Tc l ks (ind+2) (by omega);rw[jJ];have a:(VT.mk k s ks l).bulk=s.length+(bN ks+ks.length)+aY l+1:=by rw[VT.bulk]
  rw[a] at h1 ⊢;split
  ·simp only[aL,aI,bY];omega
  ·rename_i b;have hll:0<aY l:=by
    cases l with
    | nil=>simp at b
    | cons x l=>rw[aY];have:=rA x;have:=oI x;omega
   split
   ·simp only[aL];omega
   ·simp only[aL];omega
theorem Tb: ∀(l:List VT) (ind:Nat),ind+2*cC l<=1024->(iH l ind).length<=2100*aY l
 | [],ind,h=>by simp[iH]
 | x::l,ind,h=>by
  rw[cC] at h;have h1:=Ck x ind (by omega);have h2:=Tb l ind (by omega);have h3:=rA x;have h4:=oI x;rw[iH,aY];simp only[aI,List.length_replicate,aL,bY];omega
theorem Tc: ∀(l:List VT) (ks:List aA) (ind:Nat),ind+2*cC l<=1024->(iG l ks ind).length<=2100*aY l+336*bN ks
 | [],ks,ind,h=>by simp[iG]
 | x::l,ks,ind,h=>by
  rw[cC] at h;have h1:=Ck x ind (by omega);have h2:=Tc l ks.tail ind (by omega);have h3:=rA x;have h4:=oI x;have h5:=Hr (ks.headD []);have h6:bN ks=(ks.headD []).length+bN ks.tail:=by cases ks<;>simp[bN]
  rw[iG,aY];simp only[aI,List.length_replicate,aL,bY];omega
end
theorem yT:yK 59 (([]:List Value).length+2):=⟨by kernel_rfl,by decide⟩
abbrev jK (B b:Nat) (l:aA) (w:World):Prop:=iE 59 [] B b l w
theorem aEA (c:UInt8) (n:Nat):Lib.repeatL [c] n=List.replicate n c:=by
 induction n with
 | zero=>rfl
 | succ n ih=>rw[Lib.repeatL,ih];rfl
theorem aEB (n:Nat) (w:World) (hn:n<=4294967296):
  Calls Tryz.prog 103 #[.string ⟨#[32]⟩, .int .i64 (n:Int)] w λe w'=>e= .returned (.string (bs (List.replicate n 32)))/\Below w.heap.size w w':=by
 have a:(⟨#[32]⟩:ByteArray).size=1:=rfl;have h:=Tryz.strings_Repeat ⟨#[32]⟩ n w (by omega) (by rw[a];omega);rw[show (⟨#[32]⟩:ByteArray).data.toList= [32] from rfl,aEA] at h;exact h
theorem Td (w0:World) (b:Nat) (l s:aA) (ind:Nat) (w:World) (h:jK w0.heap.size b l w) (hb0:Below w0.heap.size w0 w) (hl:l.length<=4294966000) (hi:ind<=1024) (hs:s.length<=4294967296):
  Calls Tryz.prog 78 #[.pointer (some ⟨b,0,none⟩), .int .i64 (ind:Int), .string (bs s)] w λe w'=>e= .returned (.tuple #[])/\jK w0.heap.size b (l++(List.replicate ind 32++s)) w'/\Kp w0.heap.size b w w':=by
 have a:w0.heap.size<=w.heap.size:=hb0.size;have H:=hid h;have o:=hid (λw=>aEB ind w (by omega));have c:Hid (∀w',Below w.heap.size w w'->Calls Tryz.prog 82 #[.pointer (some ⟨b,0,none⟩), .string (bs (List.replicate ind 32))] w' λe w2=>e= .returned (.tuple #[.int .i64 ((List.replicate ind (32:UInt8)).length:Int), .nilIface])/\mP 59 [] w0.heap.size b (l++List.replicate ind 32) w' w2):=hid (λw' p=>uF yT w0.heap.size b l _ w' (H.out.keep p) (by omega) (by rw[List.length_replicate];omega) (aV a p.size));have f:Hid (∀w',jK w0.heap.size b (l++List.replicate ind 32) w'->w0.heap.size<=w'.heap.size->Calls Tryz.prog 82 #[.pointer (some ⟨b,0,none⟩), .string (bs s)] w' λe w2=>e= .returned (.tuple #[.int .i64 (s.length:Int), .nilIface])/\mP 59 [] w0.heap.size b (l++List.replicate ind 32++s) w' w2):=hid (λw' u q=>uF yT w0.heap.size b _ s w' u (by rw[aI,List.length_replicate];omega) hs q);have n:=aQ (List.replicate ind (32:UInt8));obtain⟨RP,g⟩:=exQ<|List.replicate ind (32:UInt8);rw[g] at o c f n ⊢;clear h g;go_enter Tryz.func78,Tryz.ntmps78;go_upto_region 0 with fail;go_region_law ((first
  | (go_simp;go_at_call 103;(refine(o.out _).mono ?_);rintro e w2 ⟨rfl,hb2⟩)
  | (go_simp;go_at_call 82;(refine(c.out _ (aC (aB _ _).drew (by assumption))).mono ?_);rintro e w3 ⟨rfl,i,d,j⟩)))
 all_goals
  have r:=hid i;have k:Hid (Kp w0.heap.size b w w3):=hid (Kp.trans (Kp.of_below (aC (aB _ w).drew (by assumption)) a) ⟨d,j⟩);clear i d j;go_wp2_with fail;refine(f.out _ r.out (aV a k.out.size)).mono ?_;rintro e w4 ⟨rfl,i,d,j⟩;have t:=hid i;have m:Hid (Kp w0.heap.size b w w4):=hid (k.out.trans ⟨d,j⟩);clear i d j;go_wp2_with fail;go_end0;exact⟨rfl,by rw[<-dY];exact t.out,m.out⟩
theorem aEC (l:aA):(⟨#[32]⟩:ByteArray)++bs l++⟨#[10]⟩=bs (32::(l++ [10])):=by
 have a:(⟨#[32]⟩:ByteArray)=bs [32]:=rfl;have b:(⟨#[10]⟩:ByteArray)=bs [10]:=rfl;rw[a,b,mU,mU];rfl
theorem aED (l:aA):bs l++(⟨#[58]⟩:ByteArray)=bs (l++ [58]):=by
 have a:(⟨#[58]⟩:ByteArray)=bs [58]:=rfl;rw[a,mU]
theorem VD.deep {w:World}: ∀ {n:Nat}{t:VT}{kv iv:Value},VD w n t kv iv->t.depth<=n
 | 0,_,_,_,h=>h.elim
 | n +1,t,kv,iv,h=>by
  obtain⟨h1,p,c,h2,h3,h4⟩:=h;obtain⟨k,s,ks,l⟩:=t;rw[VT.depth];rcases h4 with h4 | ⟨g,o,h4,h5,d⟩
  ·obtain rfl:l= []:=h4;rw[cC];omega
  ·have key: ∀(l:List VT),(∀x∈l,x.depth<=n)->cC l<=n:=by
    intro l
    induction l with
    | nil=>intro _;rw[cC];omega
    | cons x l ih=>
     intro a;rw[cC];have h1:=a x fV;have h2:=ih (λy e=>a y (List.mem_cons_of_mem _ e));omega
   have:=key l (λx a=>by obtain⟨j,b⟩:=List.getElem?_of_mem a;obtain⟨kv',iv',e0,e1,e2,e3,e4⟩:=d j x b;exact e4.deep);omega
def Ht (w0:World) (n:Nat):Prop:= ∀(b:Nat) (t:VT) (kv iv:Value) (w:World) (l:aA) (ind:Nat),VD w0 n t kv iv->dO cE t=true->jK w0.heap.size b l w->Below w0.heap.size w0 w->l.length+2100*t.bulk<=4294960000->ind+2*n<=1026->
 Calls Tryz.prog 28 #[.pointer (some ⟨b,0,none⟩),vv t kv iv, .int .i64 (ind:Int)] w λe w'=>e= .returned (.tuple #[])/\jK w0.heap.size b (l++pD t ind) w'/\Kp w0.heap.size b w w'
def Cm (w0:World) (n:Nat):Prop:= ∀(b:Nat) (t:VT) (kv iv:Value) (w:World) (l:aA) (ind:Nat),VD w0 n t kv iv->dO cE t=true->jK w0.heap.size b l w->Below w0.heap.size w0 w->l.length+1+2100*t.bulk<=4294960000->ind+2*n<=1024->
 Calls Tryz.prog 79 #[.pointer (some ⟨b,0,none⟩),vv t kv iv, .int .i64 (ind:Int)] w λe w'=>e= .returned (.tuple #[])/\jK w0.heap.size b (l++jJ t ind) w'/\Kp w0.heap.size b w w'
theorem aEE (w0:World) (hV:dA w0) (n:Nat) (IH:Ht w0 n):Cm w0 n:=by
 intro b t kv iv w l ind g r h j hl hi;obtain⟨pk,ck,p,c,rfl,rfl⟩:=g.form;have z:w0.heap.size<=w.heap.size:=j.size;obtain⟨X,I⟩:=exQ<|w.heap.size;obtain⟨W1,k⟩:=exQ<|w.alloc (.cells #[.int .i64 t.kind, .string (bs t.text), .slice pk t.keys.length ck, .slice p t.items.length c] 25);have v:Hid (Below w.heap.size w W1):=hid (by rw[<-k];exact aH _ _);have q:Hid (bF W1 X t (.slice pk t.keys.length ck) (.slice p t.items.length c)):=hid (by rw[<-k,<-I];exact bF.new w t _ _);have a:=hid (j.trans (v.out.mono z));have G:X≠b:=by rw[<-I];exact Nat.ne_of_gt h.lt
 have hBX:w0.heap.size<=X:=by omega
 have C:Hid (Kp w0.heap.size b w W1):=hid (Kp.of_below v.out z);have J:=hid (h.keep v.out);rw[aEy];unfold vv;have ed:((ind+2:Nat):Int)=(ind:Int)+2:=by omega
 cases hem:t.items.isEmpty with
 | true=>
  rw[if_pos rfl];have i:t.items.length=0:=by cases hq:t.items with | nil=>rfl | cons _ _=>rw[hq] at hem;cases hem
  have HLZ:=hid i;have dl:decide (0<t.items.length)=false:=aJ (by omega);have dl2:decide ((0:Int)<(t.items.length:Int))=false:=aJ (by omega);have D:=Hs t;have d:=hid (Ou n t _ _ W1 (g.keep a.out) (by omega) (hV.keep a.out));unfold vv at d;have f:Hid (∀w',Below W1.heap.size W1 w'->Calls Tryz.prog 82 #[.pointer (some ⟨b,0,none⟩), .string ((⟨#[32]⟩:ByteArray)++bs (cZ t).1++⟨#[10]⟩)] w' λe w2=>e= .returned (.tuple #[.int .i64 ((32::((cZ t).1++ [10])).length:Int), .nilIface])/\mP 59 [] w0.heap.size b (l++32::((cZ t).1++ [10])) w' w2):=hid (λw' E=>by rw[aEC];exact uF yT w0.heap.size b l _ w' (J.out.keep E) (by omega) (by simp only[aL,aI,bY];omega) (aV a.out.size E.size));have x:=aQ (cZ t).1;obtain⟨Q,H⟩:=exQ<|cZ t;rw[H] at d f D x;rw[H];obtain⟨qt,qe⟩:=Q;unfold eC at d;simp only[] at d f D x ⊢;clear g r h j hem i H;go_enter Tryz.func79,Tryz.ntmps79;go_upto_region 1 with fail;clear k;obtain⟨b0,b1,b2,b3⟩:=q.out.cells;go_wp2_with fail;refine d.out.mono ?_;rintro e w2 ⟨rfl,A⟩;have y:=hid A;clear A b0 b1 b2 b3;go_wp2_with fail;refine(f.out _ y.out).mono ?_;rintro e w3 ⟨rfl,m,o,B⟩;have F:=hid m;have u:Hid (Kp w0.heap.size b w w3):=hid (C.out.trans (Kp.trans (Kp.of_below y.out a.out.size) ⟨o,B⟩));clear m o B;go_wp2_with fail;go_end0;exact⟨rfl,F.out,u.out⟩
 | false=>
  rw[if_neg (by simp)];have i:0<t.items.length:=by cases hq:t.items with | nil=>rw[hq] at hem;cases hem | cons _ _=>simp
  have dl:decide (0<t.items.length)=true:=aN i;have dl2:decide ((0:Int)<(t.items.length:Int))=true:=aN (by omega);have d:Hid (Calls Tryz.prog 99 #[.pointer (some ⟨b,0,none⟩), .int .u8 10] W1 λe w2=>e= .returned .nilIface/\mP 59 [] w0.heap.size b (l++ [10]) W1 w2):=hid (sZ yT w0.heap.size b l 10 W1 J.out (by omega) a.out.size);have f:Hid (∀w',jK w0.heap.size b (l++ [10]) w'->Below w0.heap.size w0 w'->Calls Tryz.prog 28 #[.pointer (some ⟨b,0,none⟩),vv t (.slice pk t.keys.length ck) (.slice p t.items.length c), .int .i64 ((ind+2:Nat):Int)] w' λe w2=>e= .returned (.tuple #[])/\jK w0.heap.size b (l++ [10]++pD t (ind+2)) w2/\Kp w0.heap.size b w' w2):=hid (λw' L E=>IH b t _ _ w' (l++ [10]) (ind+2) g r L E (by simp only[aI,dQ];omega) (by omega));rw[ed] at f;unfold vv at f;clear g r h j hem i;go_enter Tryz.func79,Tryz.ntmps79;go_upto_region 1 with fail;clear k;obtain⟨b0,b1,b2,b3⟩:=q.out.cells;go_wp2_with fail;refine d.out.mono ?_;rintro e w2 ⟨rfl,m,o,B⟩;have K:=hid m;have s:Hid (Kp w0.heap.size b W1 w2):=hid ⟨o,B⟩;clear m o B b0 b1 b2 b3;obtain⟨b0,b1,b2,b3⟩:=(q.out.kp s.out G).cells;go_wp2_with fail;refine(f.out _ K.out (a.out.trans s.out.1)).mono ?_;rintro e w3 ⟨rfl,m,o⟩;have F:=hid m;have u:Hid (Kp w0.heap.size b w w3):=hid (C.out.trans (s.out.trans o));clear m o b0 b1 b2 b3;go_wp2_with fail
  (try simp only[Exit.inBlock,Exit.then])
  refine bodyPost_ret (results_none rfl _ _ _) rfl ?_;exact⟨rfl,by simpa using F.out,u.out⟩
theorem aEF (w0:World) (n:Nat) (IH:Cm w0 n) (b:Nat) (t:VT) (pk:Option Addr) (ck:Nat) (p:Option Addr) (c:Nat) (i:Nat) (x:VT) (w:World) (l:aA) (ind:Nat) (hit:nQ w0 n p t.items) (hx:t.items[i]?=some x) (hev:dO cE x=true) (h:jK w0.heap.size b l w) (hb0:Below w0.heap.size w0 w) (hlc:t.items.length<=1073741824) (hl:l.length+1026+2100*x.bulk<=4294960000) (hi:ind+2*n<=1024):
  Calls Tryz.prog 49 #[.pointer (some ⟨b,0,none⟩),vv t (.slice pk t.keys.length ck) (.slice p t.items.length c), .int .i64 (i:Int), .int .i64 (ind:Int)] w λe w'=>e= .returned (.tuple #[])/\jK w0.heap.size b (l++(List.replicate ind 32++ [45]++jJ x ind)) w'/\Kp w0.heap.size b w w':=by
 have q:w0.heap.size<=w.heap.size:=hb0.size;obtain⟨X,I⟩:=exQ<|w.heap.size;obtain⟨W1,j⟩:=exQ<|w.alloc (.cells #[.int .i64 t.kind, .string (bs t.text), .slice pk t.keys.length ck, .slice p t.items.length c] 25);have k:Hid (Below w.heap.size w W1):=hid (by rw[<-j];exact aH _ _);have y:Hid (bF W1 X t (.slice pk t.keys.length ck) (.slice p t.items.length c)):=hid (by rw[<-j,<-I];exact bF.new w t _ _);have d:=hid (hb0.trans (k.out.mono q));have B:X≠b:=by rw[<-I];exact Nat.ne_of_gt h.lt
 have hBX:w0.heap.size<=X:=by omega
 have D:Hid (Kp w0.heap.size b w W1):=hid (Kp.of_below k.out q);have M:=hid (h.keep k.out);have C:=hid hit;have L:=hid hx;have E:=hid hev;have hil:=(aP.1 hx).1;have hi1:(i:Int)<(t.items.length:Int):=by omega
 have hi0:(0:Int)<=(i:Int):=by omega
 have G:Hid (Calls Tryz.prog 78 #[.pointer (some ⟨b,0,none⟩), .int .i64 (ind:Int), .string ⟨#[45]⟩] W1 λe w2=>e= .returned (.tuple #[])/\jK w0.heap.size b (l++(List.replicate ind 32++ [45])) w2/\Kp w0.heap.size b W1 w2):=hid (Td w0 b l [45] ind W1 M.out d.out (by omega) (by omega) (by decide));have F:(l++(List.replicate ind 32++ [45]):aA).length<=l.length+1025:=by simp only[aI,List.length_replicate,dQ];omega
 obtain⟨A,z⟩:=exQ<|l++(List.replicate ind 32++ [45]);rw[z] at G F;have s:l++(List.replicate ind 32++ [45]++jJ x ind)=A++jJ x ind:=by rw[<-z];simp only[dY]
 rw[s];unfold vv;clear hit hx hev h hb0 z s;go_enter Tryz.func49,Tryz.ntmps49;go_upto_region 1 with fail;clear j;go_wp2_with fail;refine G.out.mono ?_;rintro e w2 ⟨rfl,r,m⟩;have J:=hid r;have u:=hid m;have a:=hid (d.out.trans m.1);clear r m;obtain⟨b0,b1,b2,b3⟩:=(y.out.kp u.out B).cells;obtain⟨g,o,kv',iv',rfl,v,n0,n1,n2,n3,f⟩:=C.out i x L.out;obtain⟨pk2,ck2,px,cx,rfl,rfl⟩:=f.form;have m0:w2.cell? ⟨g,o+i*4,none⟩=some (.int .i64 x.kind):=by rw[a.out.cell (p:=⟨g,_,none⟩) v];exact n0
 have m1:w2.cell? ⟨g,o+i*4+1,none⟩=some (.string (bs x.text)):=by rw[a.out.cell (p:=⟨g,_,none⟩) v];exact n1
 have m2:w2.cell? ⟨g,o+i*4+2,none⟩=some (.slice pk2 x.keys.length ck2):=by rw[a.out.cell (p:=⟨g,_,none⟩) v];exact n2
 have m3:w2.cell? ⟨g,o+i*4+3,none⟩=some (.slice px x.items.length cx):=by rw[a.out.cell (p:=⟨g,_,none⟩) v];exact n3
 have H:=hid (IH b x _ _ w2 A ind f E.out J.out a.out (by omega) hi);unfold vv at H;clear f n0 n1 n2 n3;go_wp2_with fail;refine H.out.mono ?_;rintro e w4 ⟨rfl,r,m⟩;have N:=hid r;have K:Hid (Kp w0.heap.size b w w4):=hid (D.out.trans (u.out.trans m));clear r m b0 b1 b2 b3 m0 m1 m2 m3;go_wp2_with fail;go_end0;exact⟨rfl,N.out,K.out⟩
theorem aEG (w0:World) (hV:dA w0) (n:Nat) (IH:Cm w0 n) (b:Nat) (t:VT) (pk:Option Addr) (ck:Nat) (p:Option Addr) (c:Nat) (i:Nat) (x:VT) (k:aA) (w:World) (l:aA) (ind:Nat) (hlies:tF w0 pk t.keys) (hk:t.keys[i]?=some k) (hkl:t.keys.length<=1073741824) (hkb:k.length<=8388608) (hit:nQ w0 n p t.items) (hx:t.items[i]?=some x) (hev:dO cE x=true) (h:jK w0.heap.size b l w) (hb0:Below w0.heap.size w0 w) (hlc:t.items.length<=1073741824) (hl:l.length+1026+336*k.length+174+2100*x.bulk<=4294960000) (hi:ind+2*n<=1024):
  Calls Tryz.prog 50 #[.pointer (some ⟨b,0,none⟩),vv t (.slice pk t.keys.length ck) (.slice p t.items.length c), .int .i64 (i:Int), .int .i64 (ind:Int)] w λe w'=>e= .returned (.tuple #[])/\jK w0.heap.size b (l++(List.replicate ind 32++((eD k).1++ [58])++jJ x ind)) w'/\Kp w0.heap.size b w w':=by
 have B:w0.heap.size<=w.heap.size:=hb0.size;obtain⟨X,P⟩:=exQ<|w.heap.size;obtain⟨W1,r⟩:=exQ<|w.alloc (.cells #[.int .i64 t.kind, .string (bs t.text), .slice pk t.keys.length ck, .slice p t.items.length c] 25);have s:Hid (Below w.heap.size w W1):=hid (by rw[<-r];exact aH _ _);have y:Hid (bF W1 X t (.slice pk t.keys.length ck) (.slice p t.items.length c)):=hid (by rw[<-r,<-P];exact bF.new w t _ _);have a:=hid (hb0.trans (s.out.mono B));have K:X≠b:=by rw[<-P];exact Nat.ne_of_gt h.lt
 have hBX:w0.heap.size<=X:=by omega
 have M:Hid (Kp w0.heap.size b w W1):=hid (Kp.of_below s.out B);have W:=hid (h.keep s.out);have L:=hid hit;have V:=hid hx;have N:=hid hev;have hil:=(aP.1 hx).1;have hi1:(i:Int)<(t.items.length:Int):=by omega
 have hi0:(0:Int)<=(i:Int):=by omega
 obtain⟨gk,ok,rfl,z⟩:=(hlies.keep a.out).at_ hk;have hkil:=(aP.1 hk).1;have hi1k:(i:Int)<(t.keys.length:Int):=by omega
 have j:=Hr k;have f:=hid (aBG k W1 (by omega) (hV.keep a.out));have u:(l++(List.replicate ind 32++((eD k).1++ [58])):aA).length<=l.length+1025+336*k.length+172:=by simp only[aI,List.length_replicate,dQ];omega
 have H:Hid (∀w',Below W1.heap.size W1 w'->Calls Tryz.prog 78 #[.pointer (some ⟨b,0,none⟩), .int .i64 (ind:Int), .string (bs (eD k).1++⟨#[58]⟩)] w' λe w2=>e= .returned (.tuple #[])/\jK w0.heap.size b (l++(List.replicate ind 32++((eD k).1++ [58]))) w2/\Kp w0.heap.size b w' w2):=hid (λw' S=>by rw[aED];exact Td w0 b l ((eD k).1++ [58]) ind w' (W.out.keep S) (a.out.trans (S.mono a.out.size)) (by omega) (by omega) (by simp only[aI,dQ];omega));have v:=aQ (eD k).1;unfold eC at f;obtain⟨Q,R⟩:=exQ<|eD k;rw[R] at f H u j v ⊢;obtain⟨qt,qe⟩:=Q;simp only[] at f H u j v ⊢;obtain⟨A,J⟩:=exQ<|l++(List.replicate ind 32++(qt++ [58]));rw[J] at H u;have E:l++(List.replicate ind 32++(qt++ [58])++jJ x ind)=A++jJ x ind:=by rw[<-J];simp only[dY]
 rw[E];unfold vv;clear hit hx hev h hb0 J E R hk hlies;go_enter Tryz.func50,Tryz.ntmps50;go_upto_region 1 with fail;clear r;obtain⟨b0,b1,b2,b3⟩:=y.out.cells;go_wp2_with fail;refine f.out.mono ?_;rintro e w1 ⟨rfl,G⟩;have D:=hid G;clear G b0 b1 b2 b3 z;go_wp2_with fail;refine(H.out _ D.out).mono ?_;rintro e w2 ⟨rfl,C,m⟩;have T:=hid C;have m:Kp w0.heap.size b W1 w2:=(Kp.of_below D.out a.out.size).trans m;have F:=hid m;have d:=hid (a.out.trans m.1);clear C m;obtain⟨b0,b1,b2,b3⟩:=(y.out.kp F.out K).cells;obtain⟨g,o,kv',iv',rfl,I,n0,n1,n2,n3,q⟩:=L.out i x V.out;obtain⟨pk2,ck2,px,cx,rfl,rfl⟩:=q.form;have m0:w2.cell? ⟨g,o+i*4,none⟩=some (.int .i64 x.kind):=by rw[d.out.cell (p:=⟨g,_,none⟩) I];exact n0
 have m1:w2.cell? ⟨g,o+i*4+1,none⟩=some (.string (bs x.text)):=by rw[d.out.cell (p:=⟨g,_,none⟩) I];exact n1
 have m2:w2.cell? ⟨g,o+i*4+2,none⟩=some (.slice pk2 x.keys.length ck2):=by rw[d.out.cell (p:=⟨g,_,none⟩) I];exact n2
 have m3:w2.cell? ⟨g,o+i*4+3,none⟩=some (.slice px x.items.length cx):=by rw[d.out.cell (p:=⟨g,_,none⟩) I];exact n3
 have O:=hid (IH b x _ _ w2 A ind q N.out T.out d.out (by omega) hi);unfold vv at O;clear q n0 n1 n2 n3;go_wp2_with fail;refine O.out.mono ?_;rintro e w4 ⟨rfl,C,m⟩;have Y:=hid C;have U:Hid (Kp w0.heap.size b w w4):=hid (M.out.trans (F.out.trans m));clear C m b0 b1 b2 b3 m0 m1 m2 m3;go_wp2_with fail;go_end0;exact⟨rfl,Y.out,U.out⟩
theorem aEH (w0:World) (hV:dA w0) (n:Nat) (IH:Cm w0 n):Ht w0 (n+1):=by
 intro b t kv iv w l ind m R h D hl hi;have hmf: ∀(fn:Fn) (first cap:Array Value) (w:World),(Instr.makeFunc fn first cap).run Tryz.prog w= .ok (.func fn first cap) w:=λ_ _ _ _=>rfl;obtain⟨m',hm,⟨pk,ck,rfl,hck,q⟩,p,c,rfl,hlc,Q⟩:=m.parts;obtain rfl:n=m':=by omega
 have O:w0.heap.size<=w.heap.size:=D.size;obtain⟨X,hX⟩:=exQ<|w.heap.size;obtain⟨W1,B⟩:=exQ<|w.alloc (.cells #[.int .i64 t.kind, .string (bs t.text), .slice pk t.keys.length ck, .slice p t.items.length c] 25);have M:Hid (Below w.heap.size w W1):=hid (by rw[<-B];exact aH _ _);have u:Hid (bF W1 X t (.slice pk t.keys.length ck) (.slice p t.items.length c)):=hid (by rw[<-B,<-hX];exact bF.new w t _ _);have C:=hid (D.trans (M.out.mono O));have S:X≠b:=by rw[<-hX];exact Nat.ne_of_gt h.lt
 have hBX:w0.heap.size<=X:=by omega
 have W:Hid (Kp w0.heap.size b w W1):=hid (Kp.of_below M.out O);have H1:=hid (h.keep M.out);obtain⟨T,U⟩:=Fz R;have hbs:t.text.length+aY t.items+bN t.keys+t.keys.length<t.bulk:=by cases t;rw[VT.bulk];simp only[VT.items,VT.keys,VT.text];omega
 have hlen:=oJ t.items;have z:=hid Q;have V:=hid U;have ad:=hid q;have ah:=hid T;unfold pD;unfold vv;clear Q m R h q T U D hm;by_cases k6:t.kind=6
 ·rw [if_pos k6];have d6:(t.kind==6)=true:=by rw[k6];rfl
  have Z:=hid (Op ah.out k6);clear k6;go_enter Tryz.func28,Tryz.ntmps28;go_upto_region 1 with fail;clear B;obtain⟨b0,b1,b2,b3⟩:=u.out.cells;go_wp2_with fail;clear b0 b1 b2 b3;go_loopw [7,18] (λs7 s18 wr=> ∃i:Nat,s18= .int .i64 (i:Int)/\i<=t.items.length/\Hid (jK w0.heap.size b (l++iG (t.items.take i) t.keys ind) wr)/\Hid ((iG (t.items.take i) t.keys ind).length<=2100*aY (t.items.take i)+336*bN (t.keys.take i))/\Hid (Kp w0.heap.size b W1 wr)) (λ_ s18 _=>t.items.length-(RowKit.intOf s18).toNat)
  case atStart=>exact⟨0,rfl,cH _,hid (by simpa [iG] using H1.out),hid (by simp[iG]),hid (Kp.refl _ _ _)⟩
  case round=>
   obtain⟨i,rfl,aa,y,P,a⟩:=hrel;by_cases hil:i<t.items.length
   ·obtain⟨x,d⟩: ∃x,t.items[i]?=some x:=⟨_,bH hil⟩;have L:(i:Int)<(t.items.length:Int):=(by omega);have dk:decide ((i:Int)<(t.items.length:Int))=true:=aN L;have j:=bA d;have ai:=pH j;have r:dO cE x=true:=by
     have F:=V.out;rw[uZ,eH] at F;exact F x j
    have af:x.depth<=n:=by
     obtain⟨g,o,kv',iv',_,_,_,_,_,_,m⟩:=z.out i x d;exact m.deep
    have K:=hid (C.out.trans a.out.1);have ae:=P.out;have ag:=Be d;obtain⟨k,N⟩: ∃k,t.keys[i]?=some k:=⟨_,bH (by have:=Z.out;omega)⟩;have htt:bN (t.keys.take i)+k.length<=bN t.keys:=On N;have hkm:=zK (bA N);have HX:=hid d;obtain⟨A,v⟩:=exQ<|l++iG (t.items.take i) t.keys ind;have ab:A.length=l.length+(iG (t.items.take i) t.keys ind).length:=(by rw[<-v,aI]);rw[v] at y;have H:=hid (aEG w0 hV n IH b t pk ck p c i x k wr A ind ad.out N (by omega) (by omega) z.out d r y.out K.out (by omega) (by omega) (by omega));unfold vv at H;have f:l++iG (t.items.take (i+1)) t.keys ind=A++(List.replicate ind 32++((eD k).1++ [58])++jJ x ind):=by
     rw[jM d,Sz _ _ _ _ k (by rw[cB,Nat.min_eq_left (by omega)];exact N),<-dY,v]
    have s:(iG (t.items.take (i+1)) t.keys ind).length<=2100*aY (t.items.take (i+1))+336*bN (t.keys.take (i+1)):=by
     have F:=P.out;have G:=Ck x ind (by omega);have J:=rA x;have h4:=oI x;have Y:aY (t.items.take (i+1))=aY (t.items.take i)+x.bulk:=by rw[jM d,vA,aY,aY];omega
     rw[Y,jM d,Sz _ _ _ _ k (by rw[cB,Nat.min_eq_left (by omega)];exact N),aI];have h5:=Hr k;have h7:bN (t.keys.take (i+1))=bN (t.keys.take i)+k.length:=by rw[jM N,yL];simp[bN]
     rw[h7];simp only[aI,List.length_replicate,aL,bY];omega
    have HN:=hid f;have E:=hid s;clear d r j v f s;obtain⟨b0,b1,b2,b3⟩:=(u.out.kp a.out S).cells;go_wp2_with fail;refine H.out.mono ?_;rintro e w5 ⟨rfl,G,J⟩;have H5:=hid G;have I:Hid (Kp w0.heap.size b W1 w5):=hid (a.out.trans J);clear G J b0 b1 b2 b3 H;go_wp2_with fail;go_roundw
    case rel=>exact⟨i+1,by go_num,hil,hid (by rw[HN.out];exact H5.out),E,I⟩
    case measure=>simp only[RowKit.intOf];omega
   ·have dk:decide ((i:Int)<(t.items.length:Int))=false:=aJ (by omega);obtain rfl:i=t.items.length:=(by omega);rw[List.take_length] at y;go_wp2_with fail;go_end0;exact⟨rfl,y.out,W.out.trans a.out⟩
 ·rw [if_neg k6];have d6:(t.kind==6)=false:=aG.2 k6;clear k6;go_enter Tryz.func28,Tryz.ntmps28;go_upto_region 1 with fail;clear B;obtain⟨b0,b1,b2,b3⟩:=u.out.cells;go_wp2_with fail;clear b0 b1 b2 b3;go_loopw [7,18] (λs7 s18 wr=> ∃i:Nat,s18= .int .i64 (i:Int)/\i<=t.items.length/\Hid (jK w0.heap.size b (l++iH (t.items.take i) ind) wr)/\Hid ((iH (t.items.take i) ind).length<=2100*aY (t.items.take i))/\Hid (Kp w0.heap.size b W1 wr)) (λ_ s18 _=>t.items.length-(RowKit.intOf s18).toNat)
  case atStart=>exact⟨0,rfl,cH _,hid (by simpa [iH] using H1.out),hid (by simp[iH]),hid (Kp.refl _ _ _)⟩
  case round=>
   obtain⟨i,rfl,aa,y,P,a⟩:=hrel;by_cases hil:i<t.items.length
   ·obtain⟨x,d⟩: ∃x,t.items[i]?=some x:=⟨_,bH hil⟩;have L:(i:Int)<(t.items.length:Int):=(by omega);have dk:decide ((i:Int)<(t.items.length:Int))=true:=aN L;have j:=bA d;have ai:=pH j;have r:dO cE x=true:=by
     have F:=V.out;rw[uZ,eH] at F;exact F x j
    have af:x.depth<=n:=by
     obtain⟨g,o,kv',iv',_,_,_,_,_,_,m⟩:=z.out i x d;exact m.deep
    have K:=hid (C.out.trans a.out.1);have ae:=P.out;have ag:=Be d;have HX:=hid d;obtain⟨A,v⟩:=exQ<|l++iH (t.items.take i) ind;have ab:A.length=l.length+(iH (t.items.take i) ind).length:=(by rw[<-v,aI]);rw[v] at y;have H:=hid (aEF w0 n IH b t pk ck p c i x wr A ind z.out d r y.out K.out (by omega) (by omega) (by omega));unfold vv at H;have f:l++iH (t.items.take (i+1)) ind=A++(List.replicate ind 32++ [45]++jJ x ind):=by
     rw[jM d,Sy,<-dY,v]
    have s:(iH (t.items.take (i+1)) ind).length<=2100*aY (t.items.take (i+1)):=by
     have F:=P.out;have G:=Ck x ind (by omega);have J:=rA x;have h4:=oI x;have Y:aY (t.items.take (i+1))=aY (t.items.take i)+x.bulk:=by rw[jM d,vA,aY,aY];omega
     rw[Y,jM d,Sy,aI];simp only[aI,List.length_replicate,aL,bY];omega
    have HN:=hid f;have E:=hid s;clear d r j v f s;obtain⟨b0,b1,b2,b3⟩:=(u.out.kp a.out S).cells;go_wp2_with fail;refine H.out.mono ?_;rintro e w5 ⟨rfl,G,J⟩;have H5:=hid G;have I:Hid (Kp w0.heap.size b W1 w5):=hid (a.out.trans J);clear G J b0 b1 b2 b3 H;go_wp2_with fail;go_roundw
    case rel=>exact⟨i+1,by go_num,hil,hid (by rw[HN.out];exact H5.out),E,I⟩
    case measure=>simp only[RowKit.intOf];omega
   ·have dk:decide ((i:Int)<(t.items.length:Int))=false:=aJ (by omega);obtain rfl:i=t.items.length:=(by omega);rw[List.take_length] at y;go_wp2_with fail;go_end0;exact⟨rfl,y.out,W.out.trans a.out⟩
theorem Te (w0:World) (hV:dA w0): ∀n,Ht w0 n
 | 0=>λb t kv iv w l ind h=>h.elim
 | n+1=>aEH w0 hV n (aEE w0 hV n (Te w0 hV n))
def wL (t:VT) (ind:Int):Bool:=cY t&&decide (0<=ind)&&decide (ind<=256)
def mR (t:VT):Bool:=cY t&&decide (0<t.items.length)
def uU (t:VT) (ind:Int):aA×Int:=if wL t ind&&mR t then(pD t ind.toNat,0) else([],1)
def gX (t:VT):aA×Int:=if mR t then uU t 0 else if(cZ t).2=0 then((cZ t).1++ [10],0) else([],(cZ t).2)
theorem aEI {t:VT} (h:cY t=true):t.depth<=32:=by
 unfold cY at h;simp only[bV,eA] at h;exact h.1.2
theorem aEJ (n:Nat) (t:VT) (kv iv:Value) (ind:Int) (w:World) (h:VD w n t kv iv) (hbk:t.bulk<=1073741824) (hV:dA w):
  Calls Tryz.prog 27 #[vv t kv iv, .int .i64 ind] w λe w'=>e= .returned (.bool (wL t ind))/\Below w.heap.size w w':=by
 obtain⟨pk,ck,p,c,rfl,rfl⟩:=h.form;obtain⟨X,m⟩:=exQ<|w.heap.size;obtain⟨W1,b⟩:=exQ<|w.alloc (.cells #[.int .i64 t.kind, .string (bs t.text), .slice pk t.keys.length ck, .slice p t.items.length c] 25);have d:Hid (Below w.heap.size w W1):=hid (by rw[<-b];exact aH _ _);have i:Hid (bF W1 X t (.slice pk t.keys.length ck) (.slice p t.items.length c)):=hid (by rw[<-b,<-m];exact bF.new w t _ _);have a:=hid (xZ n t _ _ W1 (h.keep d.out) hbk (hV.keep d.out).1);unfold vv at a ⊢;unfold wL;obtain⟨y,k⟩:=exQ<|cY t;obtain⟨y1,j⟩:=exQ<|decide (0<=ind);obtain⟨y2,l⟩:=exQ<|decide (ind<=256);rw[k] at a;rw[k,j,l];clear h hV k;cases y<;>cases y1<;>cases y2
 all_goals
  go_enter Tryz.func27,Tryz.ntmps27;go_upto_region 1 with fail;clear b;obtain⟨b0,b1,b2,b3⟩:=i.out.cells;go_wp2_with fail;refine a.out.mono ?_;rintro e w2 ⟨rfl,g⟩;have f:=hid (aC d.out g);clear g b0 b1 b2 b3;go_wp2_with fail;go_ret;exact⟨rfl,by first | exact f.out | (rw[<-m];exact f.out)⟩
theorem Hu (n:Nat) (t:VT) (kv iv:Value) (w:World) (h:VD w n t kv iv) (hbk:t.bulk<=1073741824) (hV:dA w):
  Calls Tryz.prog 15 #[vv t kv iv] w λe w'=>e= .returned (.bool (mR t))/\Below w.heap.size w w':=by
 obtain⟨pk,ck,p,c,rfl,rfl⟩:=h.form;obtain⟨X,l⟩:=exQ<|w.heap.size;obtain⟨W1,d⟩:=exQ<|w.alloc (.cells #[.int .i64 t.kind, .string (bs t.text), .slice pk t.keys.length ck, .slice p t.items.length c] 25);have f:Hid (Below w.heap.size w W1):=hid (by rw[<-d];exact aH _ _);have i:Hid (bF W1 X t (.slice pk t.keys.length ck) (.slice p t.items.length c)):=hid (by rw[<-d,<-l];exact bF.new w t _ _);have a:=hid (xZ n t _ _ W1 (h.keep f.out) hbk (hV.keep f.out).1);unfold vv at a ⊢;unfold mR;obtain⟨y,k⟩:=exQ<|cY t;obtain⟨y1,j⟩:=exQ<|decide (0<t.items.length);have hy1z:decide ((0:Int)<(t.items.length:Int))=y1:=by rw[<-j,decide_eq_decide];omega
 rw[k] at a;rw[k,j];clear h hV k;cases y<;>cases y1
 all_goals
  go_enter Tryz.func15,Tryz.ntmps15;go_upto_region 1 with fail;clear d;obtain⟨b0,b1,b2,b3⟩:=i.out.cells;go_wp2_with fail;refine a.out.mono ?_;rintro e w2 ⟨rfl,b⟩;have g:=hid (aC f.out b);obtain⟨b0',b1',b2',b3'⟩:=(i.out.keep b).cells;clear b b0 b1 b2 b3;go_wp2_with fail;go_ret;exact⟨rfl,by first | exact g.out | (rw[<-l];exact g.out)⟩
theorem aEK {l:List VT}{ks:List aA}{ind:Nat} (h:0<l.length):iG l ks ind≠ []:=by
 cases l with
 | nil=>simp at h
 | cons x l=>rw[iG];simp
theorem aEL {l:List VT}{ind:Nat} (h:0<l.length):iH l ind≠ []:=by
 cases l with
 | nil=>simp at h
 | cons x l=>rw[iH];simp
theorem aEM {t:VT}{ind:Nat} (h:0<t.items.length):pD t ind≠ []:=by
 unfold pD;split
 ·exact aEK h
 ·exact aEL h
theorem Tf (n:Nat) (t:VT) (kv iv:Value) (ind:Int) (w:World) (hn:VD w n t kv iv) (hbk:t.bulk<=2000000) (hV:dA w):
  Calls Tryz.prog 14 #[vv t kv iv, .int .i64 ind] w λe w'=>e=eC (uU t ind)/\Below w.heap.size w w':=by
 have h:=hn.tight;clear hn;obtain⟨pk,ck,p,c,rfl,rfl⟩:=h.form;obtain⟨X,F⟩:=exQ<|w.heap.size;obtain⟨W1,m⟩:=exQ<|w.alloc (.cells #[.int .i64 t.kind, .string (bs t.text), .slice pk t.keys.length ck, .slice p t.items.length c] 25);have o:Hid (Below w.heap.size w W1):=hid (by rw[<-m];exact aH _ _);have j:Hid (bF W1 X t (.slice pk t.keys.length ck) (.slice p t.items.length c)):=hid (by rw[<-m,<-F];exact bF.new w t _ _);have v:=hid (h.keep o.out);have K:=hid (hV.keep o.out);have k:=hid (aEJ t.depth t _ _ ind W1 v.out (by omega) K.out);have l:Hid (∀w',Below W1.heap.size W1 w'->Calls Tryz.prog 15 #[vv t (.slice pk t.keys.length ck) (.slice p t.items.length c)] w' λe w2=>e= .returned (.bool (mR t))/\Below w'.heap.size w' w2):=hid (λw' G=>Hu t.depth t _ _ w' (v.out.keep G) (by omega) (K.out.keep G));unfold vv at k l ⊢;unfold uU;obtain⟨y1,q⟩:=exQ<|wL t ind;obtain⟨y2,s⟩:=exQ<|mR t;rw[q] at k;rw[s] at l;rw[q,s];have L:=hid q;have O:=hid s;clear h hV q s;cases y1 with
 | false=>
  rw[Bool.false_and,if_neg (by simp)];clear l;go_enter Tryz.func14,Tryz.ntmps14;go_upto_region 1 with fail;clear m;obtain⟨b0,b1,b2,b3⟩:=j.out.cells;go_wp2_with fail;refine k.out.mono ?_;rintro e w2 ⟨rfl,f⟩;have d:=hid (aC o.out f);clear f b0 b1 b2 b3;go_wp2_with fail;go_ret2;exact⟨rfl,by first | exact d.out | (rw[<-F];exact d.out)⟩
 | true=>
  cases y2 with
  | false=>
   rw[Bool.and_false,if_neg (by simp)];go_enter Tryz.func14,Tryz.ntmps14;go_upto_region 1 with fail;clear m;obtain⟨b0,b1,b2,b3⟩:=j.out.cells;go_wp2_with fail;refine k.out.mono ?_;rintro e w2 ⟨rfl,f⟩;have d:=hid f;clear f b0 b1 b2 b3;obtain⟨b0,b1,b2,b3⟩:=(j.out.keep d.out).cells;go_wp2_with fail;refine(l.out _ d.out).mono ?_;rintro e w3 ⟨rfl,a⟩;have g:=hid (aC o.out (aC d.out a));clear a b0 b1 b2 b3;go_wp2_with fail;go_ret2;exact⟨rfl,by first | exact g.out | (rw[<-F];exact g.out)⟩
  | true=>
   rw[Bool.and_true,if_pos rfl];have H:=L.out;have r:=O.out;unfold wL at H;unfold mR at r;simp only[bV,eA] at H r;obtain⟨⟨z,hi0⟩,hi1⟩:=H;have hdp:=aEI z;have P:=hid (wA z);have A:=hid (aEM (t:=t) (ind:=ind.toNat) r.2);obtain⟨i,rfl⟩: ∃i:Nat,ind=i:=⟨ind.toNat,by omega⟩;rw[eU] at A ⊢;obtain⟨C,E⟩:=exQ<|pD t i;rw[E] at A;rw[E];have I:=hid E;clear E z r;go_enter Tryz.func14,Tryz.ntmps14;go_upto_region 1 with fail;clear m;obtain⟨b0,b1,b2,b3⟩:=j.out.cells;go_wp2_with fail;refine k.out.mono ?_;rintro e w2 ⟨rfl,f⟩;have d:=hid f;clear f b0 b1 b2 b3;obtain⟨b0,b1,b2,b3⟩:=(j.out.keep d.out).cells;go_wp2_with fail;refine(l.out _ d.out).mono ?_;rintro e w3 ⟨rfl,a⟩;have g:=hid (aC d.out a);clear a b0 b1 b2 b3;have hP:=iE.new w3 59 [];have a:=aH w3 (.cells #[.pointer none, .slice none 0 0] 59);obtain⟨b,G⟩:=exQ<|w3.heap.size;obtain⟨W3,x⟩:=exQ<|w3.alloc (.cells #[.pointer none, .slice none 0 0] 59);have hP:jK w3.heap.size w3.heap.size [] W3:=by rw[<-x];exact hP
   rw[x] at a;rw[show jK w3.heap.size w3.heap.size [] W3=jK w3.heap.size b [] W3 from by rw[G]] at hP;have u:=(j.out.keep g.out).keep a;have M:=hid a;have y:=hid (Te w3 (K.out.keep g.out) t.depth b t _ _ W3 [] i (v.out.keep g.out) P.out hP a (by simp only[bY];omega) (by omega));unfold vv at y;rw[eE,I.out] at y;obtain⟨b0,b1,b2,b3⟩:=u.cells;clear hP a u;go_wp2_with fail;refine y.out.mono ?_;rintro e w4 ⟨rfl,Q,R⟩;have N:=hid (Oh _ b C w4 Q A.out);have J:=hid (M.out.trans R.1);clear Q R b0 b1 b2 b3 x;go_wp2_with fail;refine N.out.mono ?_;rintro e w5 ⟨rfl,D⟩;have B:=hid (aC o.out (aC g.out (J.out.trans D)));clear D;go_wp2_with fail;go_ret2;exact⟨rfl,by first | exact B.out | (rw[<-F];exact B.out)⟩
end
section
open Go.Lib hiding intOf
mutual
theorem aEN: ∀(t:VT) (hd:aA) (ind:Nat),aX (gN t hd ind)=List.replicate ind 32++hd++jJ t ind
 | .mk k s ks [],hd,ind=>by
  rw[gN,jJ];simp only[List.isEmpty_nil,if_true,aX];simp
 | .mk k s ks (x::l),hd,ind=>by
  rw[gN,jJ];have h:=Hv (x::l) (decide (k=6)) ks (ind+2);simp only[List.isEmpty_cons,Bool.false_eq_true,if_false,aX];rw[h];by_cases h6:k=6
  ·simp[h6]
  ·simp[h6]
theorem Hv: ∀(xs:List VT) (map:Bool) (ks:List aA) (ind:Nat),aX (cJ xs map ks ind)=if map then iG xs ks ind else iH xs ind
 | [],map,ks,ind=>by cases map<;>rfl
 | x::xs,map,ks,ind=>by
  rw[cJ,Px,aEN x _ ind,Hv xs map ks.tail ind];cases map with
  | false=>rfl
  | true=>rfl
end
theorem aEO (t:VT):aX (cJ t.items (decide (t.kind=6)) t.keys 0)=pD t 0:=by
 rw[Hv];unfold pD;by_cases h6:t.kind=6<;>simp[h6]
theorem aEP {t:VT} (hR:cY t=true):(gX t).2=0/\((gX t).1.length<=65536->(jF (gX t).1).2=(((gX t).1.length:Int),0)/\rU (gX t).1=t):=by
 by_cases h0:t.items= []
 ·have b:mR t=false:=by unfold mR;rw[h0,hR];rfl
  have d:=aBX hR;have e:gX t=((cZ t).1++ [10],0):=by unfold gX;rw[b,if_neg (by simp),if_pos d]
  have e2:(cZ t).1++ [10]=aX [(cZ t).1]:=rfl;rw[e,e2];exact⟨rfl,λa=>aEx hR h0 a⟩
 ·have c:0<t.items.length:=mX.2 h0;have b:mR t=true:=by unfold mR;rw[hR,aN c];rfl
  have e:gX t=(pD t 0,0):=by
   unfold gX uU wL;rw[b,hR];rfl
  rw[e,<-aEO];exact⟨rfl,λa=>aEw hR h0 a⟩
theorem aEQ {t:VT} (hR: ¬cY t=true):(gX t).2≠0:=by
 have a:cY t=false:=by simpa using hR
 unfold gX mR;rw[a,aBY hR];simp
end
section
open Go.RowKit
open Go.Lib hiding intOf
theorem Hw (n:Nat) (t:VT) (kv iv:Value) (w:World) (h:VD w n t kv iv) (hbk:t.bulk<=2000000) (hV:dA w):
  Calls Tryz.prog 6 #[vv t kv iv] w λe w'=>e=eC (gX t)/\Below w.heap.size w w':=by
 obtain⟨pk,ck,p,c,rfl,rfl⟩:=h.form;obtain⟨X,z⟩:=exQ<|w.heap.size;obtain⟨W1,l⟩:=exQ<|w.alloc (.cells #[.int .i64 t.kind, .string (bs t.text), .slice pk t.keys.length ck, .slice p t.items.length c] 25);have m:Hid (Below w.heap.size w W1):=hid (by rw[<-l];exact aH _ _);have g:Hid (bF W1 X t (.slice pk t.keys.length ck) (.slice p t.items.length c)):=hid (by rw[<-l,<-z];exact bF.new w t _ _);have q:=hid (h.keep m.out);have A:=hid (hV.keep m.out);have j:=hid (Hu n t _ _ W1 q.out (by omega) A.out);have k:Hid (∀w',Below W1.heap.size W1 w'->Calls Tryz.prog 14 #[vv t (.slice pk t.keys.length ck) (.slice p t.items.length c), .int .i64 0] w' λe w2=>e=eC (uU t 0)/\Below w'.heap.size w' w2):=hid (λw' u=>Tf n t _ _ 0 w' (q.out.keep u) hbk (A.out.keep u));have i:Hid (∀w',Below W1.heap.size W1 w'->Calls Tryz.prog 18 #[vv t (.slice pk t.keys.length ck) (.slice p t.items.length c)] w' λe w2=>e=eC (cZ t)/\Below w'.heap.size w' w2):=hid (λw' u=>Ou n t _ _ w' (q.out.keep u) (by omega) (A.out.keep u));have v:=Hs t;unfold vv at j k i ⊢;unfold gX;obtain⟨y,B⟩:=exQ<|mR t;obtain⟨Q1,s⟩:=exQ<|uU t 0;obtain⟨Q2,r⟩:=exQ<|cZ t;rw[B] at j;rw[s] at k;rw[r] at i v;rw[B,s,r];obtain⟨q1,e1⟩:=Q1;obtain⟨q2,e2⟩:=Q2;simp only[] at v ⊢;have hz2:=aQ q2;unfold eC at k i;simp only[] at k i;clear h hV B s r;cases y with
 | true=>
  rw[if_pos rfl];go_enter Tryz.func6,Tryz.ntmps6;go_upto_region 1 with fail;clear l;obtain⟨b0,b1,b2,b3⟩:=g.out.cells;go_wp2_with fail;refine j.out.mono ?_;rintro e w2 ⟨rfl,d⟩;have a:=hid d;clear d b0 b1 b2 b3;obtain⟨b0,b1,b2,b3⟩:=(g.out.keep a.out).cells;go_wp2_with fail;refine(k.out _ a.out).mono ?_;rintro e w3 ⟨rfl,b⟩;have f:=hid (aC m.out (aC a.out b));clear b b0 b1 b2 b3;go_wp2_with fail;go_ret2;exact⟨rfl,by first | exact f.out | (rw[<-z];exact f.out)⟩
 | false=>
  rw[if_neg (by simp)];have o:bs q2++(⟨#[10]⟩:ByteArray)=bs (q2++ [10]):=by
   have C:(⟨#[10]⟩:ByteArray)=bs [10]:=rfl;rw[C,mU]
  have x:=hid o;clear o;by_cases he:e2=0
  ·rw[if_pos he];have de:(e2 !=0)=false:=(by simp[he]);clear he;go_enter Tryz.func6,Tryz.ntmps6;go_upto_region 1 with fail;clear l;obtain⟨b0,b1,b2,b3⟩:=g.out.cells;go_wp2_with fail;refine j.out.mono ?_;rintro e w2 ⟨rfl,d⟩;have a:=hid d;clear d b0 b1 b2 b3;obtain⟨b0,b1,b2,b3⟩:=(g.out.keep a.out).cells;go_wp2_with fail;refine(i.out _ a.out).mono ?_;rintro e w3 ⟨rfl,b⟩;have f:=hid (aC m.out (aC a.out b));clear b b0 b1 b2 b3;go_wp2_with fail;go_ret2;exact⟨by unfold eC;rw[<-x.out];rfl,by first | exact f.out | (rw[<-z];exact f.out)⟩
  ·rw[if_neg he];have de:(e2 !=0)=true:=(by simp[he]);clear he;go_enter Tryz.func6,Tryz.ntmps6;go_upto_region 1 with fail;clear l;obtain⟨b0,b1,b2,b3⟩:=g.out.cells;go_wp2_with fail;refine j.out.mono ?_;rintro e w2 ⟨rfl,d⟩;have a:=hid d;clear d b0 b1 b2 b3;obtain⟨b0,b1,b2,b3⟩:=(g.out.keep a.out).cells;go_wp2_with fail;refine(i.out _ a.out).mono ?_;rintro e w3 ⟨rfl,b⟩;have f:=hid (aC m.out (aC a.out b));clear b b0 b1 b2 b3;go_wp2_with fail;go_ret2;exact⟨rfl,by first | exact f.out | (rw[<-z];exact f.out)⟩
end
section
def smA:VT:= .mk 3 [49] [] []
def smX:VT:= .mk 4 [120] [] []
def smE:VT:= .mk 5 [] [] []
def smR:VT:= .mk 5 [] [] [smX,smE]
def tC:VT:= .mk 6 [] [[97],[98]] [smA,smR]
def Cn:VT:= .mk 4 [49] [] []
theorem aEV:gX tC=([97,58,32,49,10,98,58,10,32,32,45,32,120,10,32,32,45,32,91,93,10],0):=by decide+kernel
theorem aEW:gX Cn=([39,49,39,10],0):=by decide+kernel
theorem aEX:uU Cn 0=([],1):=by decide+kernel
theorem aEY:mR tC=true:=by decide+kernel
end
section
open Go.RowKit
open Go.Lib hiding intOf
theorem aEZ:fK (qY 1)= [49]:=by decide+kernel
theorem aFa (w:World) (hV:dA w):
  Calls Tryz.prog 11 #[.int .i64 1] w λe w'=>e= .returned (.agg #[.int .i64 3, .string (bs [49]), .slice none 0 0, .slice none 0 0])/\Below w.heap.size w w':=by
 have ba:=aH w (.cells #[.int .i64 0, .string (bs []), .slice none 0 0, .slice none 0 0] 25);have a:=jC.new w 0 [];obtain⟨W1,g⟩:=exQ<|w.alloc (.cells #[.int .i64 0, .string (bs []), .slice none 0 0, .slice none 0 0] 25);rw[g] at ba a;have m:=hid ba;have p:=hid a;have q:=hid (hV.keep ba);obtain⟨y0,y1,y2,y3,f0,f1,f2,f3⟩:=a.cells;have hW1':w.alloc (.cells #[.int .i64 0, .string ⟨#[]⟩, .slice none 0 0, .slice none 0 0] 25)=W1:=g;have C1:=hid (Yi 1 W1 (by omega) q.out.1.2);have C2:Hid (∀w',dA w'->Calls Tryz.prog 25 #[.agg #[.bool (qY 1).neg, .string (bs (qY 1).dig), .int .i64 (qY 1).exp]] w' λe w2=>e= .returned (.string (bs [49]))/\Below w'.heap.size w' w2):=hid (λw' s=>by have:=Aj (qY 1) w' (by decide+kernel) s.1.2;rw[aEZ] at this;exact this);unfold fQ at C1;obtain⟨N,r⟩:=exQ<|qY 1;rw[r] at C1 C2;clear hV ba a g r;go_enter Tryz.func11,Tryz.ntmps11;go_wp2_with fail;refine C1.out.mono ?_;rintro e w2 ⟨rfl,b⟩;have l:=hid (p.out.keep b);have j:=hid (aC m.out b);have n:=hid (q.out.keep b);clear b y0 y1 y2 y3 f0 f1 f2 f3;go_wp2_with fail;refine(C2.out _ n.out).mono ?_;rintro e w4 ⟨rfl,f⟩;have h:=hid (l.out.keep f);have o:=hid (aC j.out f);clear f;obtain⟨y0,y1,y2,y3,f0,f1,f2,f3⟩:=h.out.cells;go_wp2_with fail;clear y0 y1 y2 y3 f0 f1 f2 f3;have hP:=(h.out).put (k2:=3) (t2:= [49]);have i:=vV (k:=3) (t:= [49]) (o.out) (aD w.heap.size);obtain⟨WF,d⟩:=exQ<|qD w4 w.heap.size 3 [49];rw[d] at hP i;have c:(((w4.setCell ⟨w.heap.size,0,none⟩ (.int .i64 3)).setCell ⟨w.heap.size,1,none⟩ (.string (bs [49]))).setCell ⟨w.heap.size,2,none⟩ (.slice none 0 0)).setCell ⟨w.heap.size,3,none⟩ (.slice none 0 0)=WF:=d;rw[c];obtain⟨d0,d1,d2,d3,_⟩:=hP.cells;clear d c;refine bodyPost_ret (v:= .agg #[.int .i64 3, .string (bs [49]), .slice none 0 0, .slice none 0 0]) ?_ rfl ⟨rfl,i⟩;simp[results,Tryz.results11,go_sem,d0,d1,d2,d3]
def zI (w:World) (X:Nat) (k:Int) (t:aA) (kv iv:Value):Prop:=w.heap[X]?=some (.cells #[.int .i64 k, .string (bs t),kv,iv] 25 (0,0))
def wM (w:World) (X:Nat) (k:Int) (t:aA) (kv iv:Value):World:=(((w.setCell ⟨X,0,none⟩ (.int .i64 k)).setCell ⟨X,1,none⟩ (.string (bs t))).setCell ⟨X,2,none⟩ kv).setCell ⟨X,3,none⟩ iv
theorem jC.putv {w:World}{X:Nat}{k k2:Int}{t t2:aA}{kv iv:Value} (h:jC w X k t):zI (wM w X k2 t2 kv iv) X k2 t2 kv iv:=by
 unfold jC at h;unfold zI wM;simp[World.setCell,h,Array.getElem?_modify]
theorem zI.cells {w:World}{X:Nat}{k:Int}{t:aA}{kv iv:Value} (h:zI w X k t kv iv):w.cell? ⟨X,0,none⟩=some (.int .i64 k)/\w.cell? ⟨X,1,none⟩=some (.string (bs t))/\w.cell? ⟨X,2,none⟩=some kv/\w.cell? ⟨X,3,none⟩=some iv:=by
 unfold zI at h;refine⟨?_,?_,?_,?_⟩<;>simp[World.cell?,h]
theorem Tg {B:Nat}{w w':World}{X:Nat}{k:Int}{t:aA}{kv iv:Value} (h:Below B w w') (hX:B<=X):Below B w (wM w' X k t kv iv):=by
 unfold wM;exact(((h.setCell (p:=⟨X,0,none⟩) hX _).setCell (p:=⟨X,1,none⟩) hX _).setCell (p:=⟨X,2,none⟩) hX _).setCell (p:=⟨X,3,none⟩) hX _
theorem Th (p:Option Addr) (n c:Nat) (w:World):
  Calls Tryz.prog 12 #[.slice p n c] w λe w'=>e= .returned (.agg #[.int .i64 5, .string ⟨#[]⟩, .slice none 0 0, .slice p n c])/\Below w.heap.size w w':=by
 have ba:=aH w (.cells #[.int .i64 0, .string (bs []), .slice none 0 0, .slice none 0 0] 25);have d:=jC.new w 0 [];obtain⟨W1,g⟩:=exQ<|w.alloc (.cells #[.int .i64 0, .string (bs []), .slice none 0 0, .slice none 0 0] 25);rw[g] at ba d;obtain⟨y0,y1,y2,y3,f0,f1,f2,f3⟩:=d.cells;have hW1':w.alloc (.cells #[.int .i64 0, .string ⟨#[]⟩, .slice none 0 0, .slice none 0 0] 25)=W1:=g;go_enter Tryz.func12,Tryz.ntmps12;go_wp2_with fail;clear y0 y1 y2 y3 f0 f1 f2 f3;have hP:=d.putv (k2:=5) (t2:= []) (kv:= .slice none 0 0) (iv:= .slice p n c);have f:=Tg (k:=5) (t:= []) (kv:= .slice none 0 0) (iv:= .slice p n c) ba (aD w.heap.size);obtain⟨WF,b⟩:=exQ<|wM W1 w.heap.size 5 [] (.slice none 0 0) (.slice p n c);rw[b] at hP f;have a:(((W1.setCell ⟨w.heap.size,0,none⟩ (.int .i64 5)).setCell ⟨w.heap.size,1,none⟩ (.string ⟨#[]⟩)).setCell ⟨w.heap.size,2,none⟩ (.slice none 0 0)).setCell ⟨w.heap.size,3,none⟩ (.slice p n c)=WF:=b;rw[a];obtain⟨d0,d1,d2,d3⟩:=hP.cells;clear b a;refine bodyPost_ret (v:= .agg #[.int .i64 5, .string ⟨#[]⟩, .slice none 0 0, .slice p n c]) ?_ rfl ⟨rfl,f⟩;have d1':WF.cell? ⟨w.heap.size,1,none⟩=some (.string ⟨#[]⟩):=d1;simp[results,Tryz.results12,go_sem,d0,d1',d2,d3]
theorem aFb (q:Option Addr) (m d:Nat) (p:Option Addr) (n c:Nat) (w:World):
  Calls Tryz.prog 10 #[.slice q m d, .slice p n c] w λe w'=>e= .returned (.agg #[.int .i64 6, .string ⟨#[]⟩, .slice q m d, .slice p n c])/\Below w.heap.size w w':=by
 have ba:=aH w (.cells #[.int .i64 0, .string (bs []), .slice none 0 0, .slice none 0 0] 25);have f:=jC.new w 0 [];obtain⟨W1,h⟩:=exQ<|w.alloc (.cells #[.int .i64 0, .string (bs []), .slice none 0 0, .slice none 0 0] 25);rw[h] at ba f;obtain⟨y0,y1,y2,y3,f0,f1,f2,f3⟩:=f.cells;have hW1':w.alloc (.cells #[.int .i64 0, .string ⟨#[]⟩, .slice none 0 0, .slice none 0 0] 25)=W1:=h;go_enter Tryz.func10,Tryz.ntmps10;go_wp2_with fail;clear y0 y1 y2 y3 f0 f1 f2 f3;have hP:=f.putv (k2:=6) (t2:= []) (kv:= .slice q m d) (iv:= .slice p n c);have g:=Tg (k:=6) (t:= []) (kv:= .slice q m d) (iv:= .slice p n c) ba (aD w.heap.size);obtain⟨WF,b⟩:=exQ<|wM W1 w.heap.size 6 [] (.slice q m d) (.slice p n c);rw[b] at hP g;have a:(((W1.setCell ⟨w.heap.size,0,none⟩ (.int .i64 6)).setCell ⟨w.heap.size,1,none⟩ (.string ⟨#[]⟩)).setCell ⟨w.heap.size,2,none⟩ (.slice q m d)).setCell ⟨w.heap.size,3,none⟩ (.slice p n c)=WF:=b;rw[a];obtain⟨d0,d1,d2,d3⟩:=hP.cells;clear b a;refine bodyPost_ret (v:= .agg #[.int .i64 6, .string ⟨#[]⟩, .slice q m d, .slice p n c]) ?_ rfl ⟨rfl,g⟩;have d1':WF.cell? ⟨w.heap.size,1,none⟩=some (.string ⟨#[]⟩):=d1;simp[results,Tryz.results10,go_sem,d0,d1',d2,d3]
end
end Go.Proofs.YtjnooaljcgkfpaaGreatDoor
