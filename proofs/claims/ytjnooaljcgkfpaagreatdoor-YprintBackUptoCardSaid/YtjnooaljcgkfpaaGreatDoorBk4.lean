import Derived.Test.YtjnooaljcgkfpaaGreatDoorBk3
import Derived.Test.YtjnooaljcgkfpaaGreatDoorBk1
import Derived.Lib.AppendStr
import Derived.Lib.UnsafeStr
import Derived.Deep.AppendLies
import Derived.Laws.IdiomStrings
import Derived.Laws.BytesArg
import Derived.Laws.BitsAllLaws
import Derived.Deep.DeepCutAuto
import Derived.Orders
import Derived.RegionTactic
set_option maxRecDepth 100000
set_option maxHeartbeats 2000000
namespace Go.Proofs.YtjnooaljcgkfpaaGreatDoor
set_option linter.unusedVariables false
set_option linter.unusedSimpArgs false
section
open Go.Lib
def gZ (txt:List UInt8) (s:Sp):aA:=if s.2<s.1\/txt.length<s.2 then [] else(txt.take s.2).drop s.1
def pM (k:Nat) (s:aA):aA:=if k=2 then s else if k=3 then fK (cO s).1 else if k=4 then(fW s).1 else []
def fY (txt:List UInt8) (ns:List aF) (k:Nat):aA:=match ns[k]? with
 | some x=>(fW (gZ txt x.key)).1
 | none=> []
def bQ (txt:List UInt8) (ns:List aF):Nat->Nat->VT
 | 0,_=> .mk 0 [] [] []
 | f+1,k=>match ns[k]? with
  | none=> .mk 0 [] [] []
  | some x=> .mk (x.kind:Int) (pM x.kind (gZ txt (x.sf,x.st))) (if x.kind=6 then x.kids.map (fY txt ns) else []) (x.kids.map (bQ txt ns f))
def dP (P:Nat->Nat->Prop):List Nat->Nat->Nat->Prop
 | [],a,hi=>a=hi
 | kid::l,a,hi=>kid=a/\ ∃m,P kid m/\dP P l m hi
theorem dP.snoc {P:Nat->Nat->Prop}{hi:Nat}: ∀ {l:List Nat}{a k:Nat},dP P l a k->P k hi->dP P (l++ [k]) a hi
 | [],a,k,h,hp=>by
  have e:a=k:=h;exact⟨e.symm,hi,hp,rfl⟩
 | x::l,a,k,h,hp=>by
  obtain⟨c,m,f,b⟩:=h;exact⟨c,m,f,b.snoc hp⟩
def eK (ns:List aF):Nat->Nat->Nat->Prop
 | 0,_,_=>False
 | lv+1,k,hi=> ∃x,ns[k]?=some x/\dP (eK ns lv) x.kids (k+1) hi
theorem dP.imp {P Q:Nat->Nat->Prop} (hi:Nat) (hlt: ∀k m,P k m->k<m): ∀ {l:List Nat}{a:Nat},dP P l a hi->(∀k m,a<=k->m<=hi->P k m->Q k m)->dP Q l a hi
 | [],a,h,_=>h
 | x::l,a,h,hq=>by
  obtain⟨rfl,m,h2,h3⟩:=h;have b: ∀ {l:List Nat}{a:Nat},dP P l a hi->a<=hi:=by
   intro l
   induction l with
   | nil=>intro a h;exact pN h
   | cons y l ih=>
    intro a h;obtain⟨rfl,m,h2,h3⟩:=h;have:=ih h3;have:=hlt _ _ h2;omega
  have h4:=hlt _ _ h2;exact⟨rfl,m,hq _ _ (aD _) (b h3) h2,h3.imp hi hlt (λk m' h5 e c=>hq k m' (by omega) e c)⟩
theorem eK.lt {ns:List aF}: ∀ {lv k hi:Nat},eK ns lv k hi->k<hi
 | lv+1,k,hi,h=>by
  obtain⟨x,hx,h2⟩:=h;have: ∀(l:List Nat) (a:Nat),dP (eK ns lv) l a hi->a<=hi:=by
   intro l
   induction l with
   | nil=>intro a h;exact pN h
   | cons y l ih=>
    intro a h;obtain⟨rfl,m,h2,b⟩:=h;have:=ih m b;have:=eK.lt h2;omega
  have:=this _ _ h2;omega
theorem eK.mono {ns ns':List aF}: ∀ {lv k hi:Nat},eK ns lv k hi->(∀j y,k<=j->j<hi->ns[j]?=some y-> ∃y',ns'[j]?=some y'/\y'.kids=y.kids)->eK ns' lv k hi
 | lv+1,k,hi,h,hs=>by
  have hlt:=h.lt;obtain⟨x,f,c⟩:=h;obtain⟨x',b,g⟩:=hs k x (aD _) hlt f;refine⟨x',b,?_⟩;rw[g];exact c.imp hi (λ_ _=>eK.lt) (λa m h3 h4 e=>e.mono (λj y h6 h7=>hs j y (by omega) (by omega)))
def Aa (lv:Nat) (V:VF):Prop:= ∀rest last nodes key r l ns,V rest last nodes key= .ok r l ns->eK ns lv nodes.length ns.length
theorem Wb {txt:List UInt8}{V:VF}{lv:Nat} (hV:Aa lv V) {obj:Bool}{had had':List (List UInt8)}{rest r:List aS}{last l:Sp}{nodes ns:List aF} (h:jN txt V obj had rest last nodes=(.ok r l ns,had')):eK ns lv nodes.length ns.length:=by
 unfold jN at h;split at h
 ·injection h with h _;exact hV _ _ _ _ _ _ _ h
 ·split at h
  ·injection h with h _;cases h
  ·split at h
   ·injection h with h _;cases h
   ·split at h
    ·injection h with h _;cases h
    ·split at h
     ·injection h with h _;cases h
     ·split at h
      ·injection h with h _;cases h
      ·injection h with h _;exact hV _ _ _ _ _ _ _ h
theorem Dh {txt:List UInt8}{V:VF}{lv:Nat} (hV:Aa lv V) (hE:sC V) {closing:Nat}{obj:Bool}{pre:List aF}: ∀(f:Nat) {had:List (List UInt8)}{rest:List aS}{last:Sp}{nodes:List aF}{r:List aS}{l:Sp}{ns:List aF}{x:aF}{post:List aF},
  fX pre x post nodes->dP (eK nodes lv) x.kids (pre.length+1) nodes.length->kI txt V closing obj pre.length f had rest last nodes= .ok r l ns-> ∃x' post',fX pre x' post' ns/\dP (eK ns lv) x'.kids (pre.length+1) ns.length
 | 0,_,_,_,_,_,_,_,_,_,_,_,h=>by cases h
 | f +1,had,rest,last,nodes,r,l,ns,x,post,hm,hK,h=>by
  unfold kI at h;split at h
  ·cases h
  ·rename_i r1 l1 ns1 had1 hk;have ht:=Wb hV hk;obtain⟨more,rfl,p,h3,⟨kk,h4⟩,q⟩:=zX hE hk;split at h
   ·cases h
   ·rename_i t r';have g:=hm.add q p nodes.length (last.2,t.sf);have i: ∀j y,pre.length+1<=j->(nodes++more)[j]?=some y-> ∃y',(fL pre.length nodes.length (last.2,t.sf) (nodes++more))[j]?=some y'/\y'.kids=y.kids:=by
     intro j y hj u;unfold fL;rw[zW,if_neg (by omega)];exact⟨y,u,rfl⟩
    have hml:=Wa hm;have e:dP (eK (fL pre.length nodes.length (last.2,t.sf) (nodes++more)) lv) (x.kids++ [nodes.length]) (pre.length+1) (fL pre.length nodes.length (last.2,t.sf) (nodes++more)).length:=by
     have c:(fL pre.length nodes.length (last.2,t.sf) (nodes++more)).length=(nodes++more).length:=rB _ _ _;rw[c];refine dP.snoc (hK.imp _ (λ_ _=>eK.lt) (λk m h6 h7 o=>o.mono (λj y s n b=>?_))) (ht.mono (λj y s n b=>i j y (by omega) b));exact i j y (by omega) (by rw[oL (by omega)];exact b)
    split at h
    ·injection h with e1 e2 e3;subst e3;exact⟨_,_,g,e⟩
    ·split at h
     ·exact Dh hV hE f g e h
     ·cases h
theorem Jo {txt:List UInt8}{V:VF}{lv:Nat} (hV:Aa lv V) (hE:sC V) {closing:Nat}{obj:Bool}{pre:List aF}{rest:List aS}{last:Sp}{nodes:List aF}{r:List aS}{l:Sp}{ns:List aF}{x:aF}{post:List aF}
  (hm:fX pre x post nodes) (hK:dP (eK nodes lv) x.kids (pre.length+1) nodes.length) (h:jV txt V closing obj pre.length rest last nodes= .ok r l ns): ∃x' post',fX pre x' post' ns/\dP (eK ns lv) x'.kids (pre.length+1) ns.length:=by
 unfold jV at h;split at h
 ·exact Dh hV hE _ hm hK h
 ·split at h
  ·injection h with h1 h2 b;subst b;exact⟨x,post,hm,hK⟩
  ·exact Dh hV hE _ hm hK h
theorem Jp (txt:List UInt8): ∀lv,Aa lv (bP txt lv)
 | 0=>λrest last nodes key r l ns h=>by
  unfold bP at h;split at h<;>cases h
 | lv +1=>λrest last nodes key r l ns h=>by
  have ih:=Jp txt lv;have ie:=pL txt lv;cases rest with
  | nil=>
   unfold bP at h;rw[if_pos (show eJ (fG [])=0 from rfl)] at h;cases h
  | cons t q=>
   unfold bP at h;split at h
   ·cases h
   ·split at h
    ·cases h
    ·simp only[] at h;obtain⟨ns',f,rfl⟩:=Vv h;have c:fX nodes ⟨eJ t.kind,t.sf,t.st,key,[],[]⟩ [] (nodes++ [⟨eJ t.kind,t.sf,t.st,key,[],[]⟩]):=⟨rfl,aD _,aD _,λy u=>by cases u⟩;have b:dP (eK (nodes++ [(⟨eJ t.kind,t.sf,t.st,key,[],[]⟩:aF)]) lv) ([]:List Nat) (nodes.length+1) (nodes++ [(⟨eJ t.kind,t.sf,t.st,key,[],[]⟩:aF)]).length:=by
      show nodes.length+1=_;rw[aI,dQ]
     have fin: ∀ {x':aF}{post':List aF},fX nodes x' post' ns'->dP (eK ns' lv) x'.kids (nodes.length+1) ns'.length->eK (nT nodes.length l.2 ns') (lv+1) nodes.length (nT nodes.length l.2 ns').length:=by
      intro x' post' o s;have e:(nT nodes.length l.2 ns').length=ns'.length:=rB _ _ _;have g:=Vz o;refine⟨{ x' with st:=l.2 },?_,?_⟩
      ·unfold nT;rw[zW,if_pos rfl,g];rfl
      ·rw[e];refine s.imp _ (λ_ _=>eK.lt) (λk m h6 h7 n=>n.mono (λj y h9 h10 i=>?_));refine⟨y,?_,rfl⟩;unfold nT;rw[zW,if_neg (by omega)];exact i
     split at f
     ·obtain⟨x',post',i1,i2⟩:=Jo ih ie c b f;exact fin i1 i2
     ·split at f
      ·obtain⟨x',post',i1,i2⟩:=Jo ih ie c b f;exact fin i1 i2
      ·injection f with h2 h3 p;subst p;exact fin c b
theorem Di {s:List UInt8}{ns:List aF}{n:Int} (h:gY s=(ns,n,0)):eK ns 32 0 ns.length:=by
 obtain⟨hs,T,l,ns',hT,c,b⟩:=Jn (s:=s) (by rw[h]);rw[h] at b;injection b with e1 e2;subst e1;exact Jp s 32 _ _ _ _ _ _ _ c
theorem dP.mem {P:Nat->Nat->Prop}{hi:Nat}: ∀ {l:List Nat}{a:Nat},dP P l a hi-> ∀k∈l,∃m,P k m
 | [],_,_,k,hk=>by cases hk
 | x::l,a,h,k,hk=>by
  obtain⟨rfl,m,h2,h3⟩:=h;rcases eV.1 hk with rfl | hk
  ·exact⟨m,h2⟩
  ·exact h3.mem k hk
theorem eK.kid {ns:List aF}{lv k hi:Nat} (h:eK ns (lv+1) k hi) {x:aF} (hx:ns[k]?=some x) {q:Nat} (hq:q∈x.kids):(∃m,eK ns lv q m)/\q<ns.length:=by
 obtain⟨x',b,f⟩:=h;rw[hx] at b;injection b with e;subst e;obtain⟨m,c⟩:=f.mem q hq;refine⟨⟨m,c⟩,?_⟩;cases lv with
 | zero=>exact c.elim
 | succ lv=>
  obtain⟨y,g,_⟩:=c;exact(aP.1 g).1
end
section
open Go.RowKit
open Go.Lib hiding intOf
def kW (w:World):Prop:=w.cell? ⟨7,15,none⟩=some (.int .u8 4)
theorem kW.keep {w w':World} (h:kW w) (hb:Below w.heap.size w w'):kW w':=by
 unfold kW at h ⊢;rw[hb.cell (p:=⟨_,_,none⟩) (qZ h),h]
theorem Jq (w:World):Calls Tryz.prog 185 #[.int .i64 16] w λe w'=>e= .returned (.bool true)/\w=w':=by
 have h1:bits .and .i64 16 15=0:=by decide
 go_enter Tryz.func185,Tryz.ntmps185;go_wp2_with fail;go_ret;exact⟨rfl,rfl⟩
theorem Wc (w:World) (hT:kW w):Calls Tryz.prog 210 #[.int .u64 16] w λe w'=>e= .returned (.int .i64 4)/\w=w':=by
 unfold kW at hT;have h1:IntKind.u64.wrap (bits .and .u64 16 (IntKind.u64.wrap (-16))*285870213051353865) / 288230376151711744=15:=by decide
 go_enter Tryz.func210,Tryz.ntmps210;go_wp2_with fail;go_ret;exact⟨rfl,rfl⟩
theorem Jr (w:World) (hT:kW w):Calls Tryz.prog 186 #[.int .u64 16] w λe w'=>e= .returned (.int .i64 4)/\w=w':=by
 go_enter Tryz.func186,Tryz.ntmps186;go_wp2_with (go_at_call 210;refine(Wc _ hT).mono ?_;rintro e w' ⟨rfl,rfl⟩);go_ret;exact⟨rfl,rfl⟩
theorem Wd: ∀n:Fin 32,bits .and .u64 (n.val:Int) 15=((n.val % 16:Nat):Int):=by decide
def pO (n:Nat):UInt8:=UInt8.ofNat (if n<10 then 48+n else 87+n)
def vF:ByteArray:=⟨#[48,49,50,51,52,53,54,55,56,57,97,98,99,100,101,102,103,104,105,106,107,108,109,110,111,112,113,114,115,116,117,118,119,120,121,122]⟩
theorem We: ∀k:Fin 16,vF.data.toList[k.val]?=some (pO k.val):=by decide
theorem Wf (n:Nat) (h:n<16) (h2:n<vF.size):vF[n]'h2=pO n:=by
 have b:vF.data.toList[n]?=some (pO n):=We ⟨n,h⟩;have c:vF.data.toList[n]?=some (vF[n]'h2):=by rw[Array.getElem?_toList];exact Array.getElem?_eq_getElem h2
 rw[c] at b;exact bC b
theorem Dj (w:World) (k:Nat) (hk:k<65):(w.alloc (.cells Tryz.zeroCells221 221)).cell? ⟨w.heap.size,k,none⟩=some (.int .u8 0):=by
 rw[World.cell?_alloc_new];have: ∀j:Fin 65,(Tryz.zeroCells221)[j.val]?=some (.int .u8 0):=by
  have e:Tryz.zeroCells221=Array.replicate 65 (.int .u8 0):=by kernel_rfl
  intro j;rw[e,Array.getElem?_replicate,if_pos j.isLt]
 exact this ⟨k,hk⟩
theorem Js (b o j:Nat):(⟨b,o,none⟩:Addr).add j=⟨b,o+j,none⟩:=by
 unfold Addr.add;split
 ·rename_i h;subst h;rfl
 ·rfl
theorem Wg (w:World) (x:UInt8):(convert 55 9 (.slice (some ⟨w.heap.size,64,none⟩) 1 1)).run Tryz.prog (w.alloc (.cells ((Tryz.zeroCells221).setIfInBounds 64 (.int .u8 (x.toNat:Int))) 221))= .ok (.string (bs [x])) (w.alloc (.cells ((Tryz.zeroCells221).setIfInBounds 64 (.int .u8 (x.toNat:Int))) 221)):=by
 refine run_convert_bytes_back _ _ _ 5 ⟨w.heap.size,64,none⟩ 1 [x] Tryz.underlying55 Tryz.underlying5 Tryz.underlying9 (λj b=>?_);obtain rfl:j=0:=by simp at b;omega
 rw[Js,World.cell?_alloc_new];have e:Tryz.zeroCells221=Array.replicate 65 (.int .u8 0):=by kernel_rfl
 rw[e];simp
theorem Wi (w:World) (x y:UInt8):(convert 55 9 (.slice (some ⟨w.heap.size,63,none⟩) 2 2)).run Tryz.prog (w.alloc (.cells (((Tryz.zeroCells221).setIfInBounds 64 (.int .u8 (x.toNat:Int))).setIfInBounds 63 (.int .u8 (y.toNat:Int))) 221))= .ok (.string (bs [y,x])) (w.alloc (.cells (((Tryz.zeroCells221).setIfInBounds 64 (.int .u8 (x.toNat:Int))).setIfInBounds 63 (.int .u8 (y.toNat:Int))) 221)):=by
 refine run_convert_bytes_back _ _ _ 5 ⟨w.heap.size,63,none⟩ 2 [y,x] Tryz.underlying55 Tryz.underlying5 Tryz.underlying9 (λj b=>?_);have e:Tryz.zeroCells221=Array.replicate 65 (.int .u8 0):=by kernel_rfl
 rw[Js,World.cell?_alloc_new,e]
 match j,b with
 | 0,_=>simp
 | 1,_=>simp
 | (j+2),b=>exact absurd b (by simp)
theorem Dk (n:Nat) (h:n<16) (h2:n<(⟨#[48,49,50,51,52,53,54,55,56,57,97,98,99,100,101,102,103,104,105,106,107,108,109,110,111,112,113,114,115,116,117,118,119,120,121,122]⟩:ByteArray).size):
  (⟨#[48,49,50,51,52,53,54,55,56,57,97,98,99,100,101,102,103,104,105,106,107,108,109,110,111,112,113,114,115,116,117,118,119,120,121,122]⟩:ByteArray)[n]'h2=pO n:=Wf n h h2
theorem Jt {a b:ByteArray} (h:a=b):Ending.returned (.tuple #[.slice none 0 0, .string a])= .returned (.tuple #[.slice none 0 0, .string b]):=by rw[h]
theorem Wj (c:Nat) (hc:c<16) (w:World) (hT:kW w):Calls Tryz.prog 149 #[.slice none 0 0, .int .u64 c, .int .i64 16, .bool false, .bool false] w λe w'=>e= .returned (.tuple #[.slice none 0 0, .string (bs [pO c])])/\Below w.heap.size w w':=by
 have b:=hid hT;clear hT;have hn:=Dj w 64 (by omega);have hcv:=Wg w;go_enter Tryz.func149,Tryz.ntmps149;go_wp2_with (first | (go_at_call 185;refine(Jq _).mono ?_;rintro e w' ⟨rfl,rfl⟩) | (go_at_call 186;refine(Jr _ (b.out.keep (aH _ _))).mono ?_;rintro e w' ⟨rfl,rfl⟩));go_loop [1,13] (λu i=>u= .int .u64 c/\i= .int .i64 65) (λ_ _=>0)
 case atStart=>exact⟨rfl,rfl⟩
 case round=>
  obtain⟨rfl,rfl⟩:=hrel;go_wp2_with fail;go_ret2;exact⟨Jt (congrArg (λz=>bs [z]) (Dk c hc (by show c<36;omega))),aH _ _⟩
theorem Wk (c:Nat) (h16:16<=c) (hc:c<32) (w:World) (hT:kW w):Calls Tryz.prog 149 #[.slice none 0 0, .int .u64 c, .int .i64 16, .bool false, .bool false] w λe w'=>e= .returned (.tuple #[.slice none 0 0, .string (bs [49,pO (c-16)])])/\Below w.heap.size w w':=by
 have f:=hid hT;clear hT;have hn:=Dj w 64 (by omega);have hn2:=Dj w 63 (by omega);have hcv:=Wi w;obtain⟨d,rfl⟩: ∃d,c=d+16:=⟨c-16,by omega⟩;have b:=Wd ⟨d+16,hc⟩;simp only[] at b;rw[show (d+16) % 16=d by omega,show ((d+16:Nat):Int)=(d:Int)+16 by omega] at b;have hs:((d:Int)+16) / 16=1:=by omega
 have hd0:(0:Int)<=(d:Int):=by omega
 have hd1:(d:Int)<36:=by omega
 go_enter Tryz.func149,Tryz.ntmps149;go_wp2_with (first | (go_at_call 185;refine(Jq _).mono ?_;rintro e w' ⟨rfl,rfl⟩) | (go_at_call 186;refine(Jr _ (f.out.keep (aH _ _))).mono ?_;rintro e w' ⟨rfl,rfl⟩));go_loopw [1,13] (λu i wr=> ∃z:Nat,(z=0/\u= .int .u64 ((d+16:Nat):Int)/\i= .int .i64 65/\wr=w.alloc (.cells Tryz.zeroCells221 221))\/(z=1/\u= .int .u64 1/\i= .int .i64 64/\wr=w.alloc (.cells ((Tryz.zeroCells221).setIfInBounds 64 (.int .u8 ((pO d).toNat:Int))) 221))) (λ_ i _=>(RowKit.intOf i).toNat)
 case atStart=>exact⟨0, .inl ⟨rfl,rfl,rfl,rfl⟩⟩
 case round=>
  obtain⟨z,⟨rfl,rfl,rfl,rfl⟩ | ⟨rfl,rfl,rfl,rfl⟩⟩:=hrel
  ·go_wp2_with fail;go_roundw
   case rel=>exact⟨1, .inr ⟨rfl,rfl,by go_num,by rw[<-Dk d (by omega) (by show d<36;omega)]⟩⟩
   case measure=>simp[RowKit.intOf]
  ·go_wp2_with fail;go_ret2;exact⟨Jt (by rw[show d+16-16=d by omega];exact congrArg (λz=>bs [z,pO d]) (Dk 1 (by omega) (by show 1<36;omega))),aH _ _⟩
def nA (c:Nat):List UInt8:=if c<16 then [pO c] else [49,pO (c-16)]
theorem Wl (c:Nat) (hc:c<32) (w:World) (hT:kW w):Calls Tryz.prog 149 #[.slice none 0 0, .int .u64 c, .int .i64 16, .bool false, .bool false] w λe w'=>e= .returned (.tuple #[.slice none 0 0, .string (bs (nA c))])/\Below w.heap.size w w':=by
 unfold nA;by_cases h:c<16
 ·rw[if_pos h];exact Wj c h w hT
 ·rw[if_neg h];exact Wk c (by omega) hc w hT
theorem Wm (c:Nat) (hc:c<32) (w:World) (hT:kW w):Calls Tryz.prog 118 #[.int .i64 c, .int .i64 16] w λe w'=>e= .returned (.string (bs (nA c)))/\Below w.heap.size w w':=by
 have C:=hid (λw hT=>Wl c hc w hT);have f:=hid hT;clear hT;go_enter Tryz.func118,Tryz.ntmps118;go_wp2_with fail;refine(C.out _ f.out).mono ?_;rintro e w1 ⟨rfl,b⟩;go_wp2_with fail;go_ret;exact⟨rfl,b⟩
theorem Wn (c:Nat) (hc:c<32) (w:World) (hT:kW w):Calls Tryz.prog 102 #[.int .i64 c, .int .i64 16] w λe w'=>e= .returned (.string (bs (nA c)))/\Below w.heap.size w w':=by
 have C:=hid (λw hT=>Wm c hc w hT);have f:=hid hT;clear hT;go_enter Tryz.func102,Tryz.ntmps102;go_wp2_with fail;refine(C.out _ f.out).mono ?_;rintro e w1 ⟨rfl,b⟩;go_wp2_with fail;go_ret;exact⟨rfl,b⟩
theorem Wo (e:Nat) (w:World) (he:e<=1000000):
  Calls Tryz.prog 103 #[.string ⟨#[48]⟩, .int .i64 e] w λen w'=>en= .returned (.string (bs (List.replicate e 48)))/\Below w.heap.size w w':=by
 have h:=Tryz.strings_Repeat ⟨#[48]⟩ e w (by omega) (by show 1*e<=_;omega);have b:Lib.repeatL (⟨#[48]⟩:ByteArray).data.toList e=List.replicate e 48:=by
  show Lib.repeatL [48] e=_;clear h he
  induction e with
  | zero=>rfl
  | succ k ih=>rw[show Lib.repeatL [48] (k+1)= [48]++Lib.repeatL [48] k from rfl,ih,List.replicate_succ];rfl
 rw[b] at h;exact h
theorem Wp {A B:World} (h:Below A.heap.size A B):A.grownBy B none:=⟨h.os,h.tape,h.output,h.size,λi b _=>h.block i b⟩
theorem kX {B size:Nat}{e:TypeId}{A W:World}{v:Value}{n:Nat}{xs:List Value} (h:A.ownsRow B e size v n xs) (hb:Below A.heap.size A W):W.ownsRow B e size v n xs:=
 h.kept (Wp hb) (by cases h:v.ownBlock with
  | none=>exact .inl rfl
  | some k=>exact .inr (by simp))
theorem jA {w:World}{B1 B2:Nat}{e1 e2:TypeId}{s1 s2:Nat}{v1 v2:Value}{n1 n2:Nat}{x1 x2:List Value} (h1:w.ownsRow B1 e1 s1 v1 n1 x1) (h2:w.ownsRow B2 e2 s2 v2 n2 x2) (he:e1≠e2):v1.ownBlock=none\/v1.ownBlock≠v2.ownBlock:=by
 rcases h1.2 with⟨rfl,_⟩ | ⟨g,cap,cur,rfl,_,e,_⟩
 ·exact .inl rfl
 ·right;rcases h2.2 with⟨rfl,_⟩ | ⟨g2,cap2,cur2,rfl,_,b,_⟩
  ·intro h;cases h
  ·intro h;have c:g=g2:=bC h;subst c;rw[e] at b;injection b with b;injection b with _ b;exact he b
theorem dM {w:World}{B:Nat}{e t:TypeId}{s:Nat}{v:Value}{n:Nat}{xs:List Value}{X:Nat}{cs:Array Value}{fz:Nat×Nat} (h:w.ownsRow B e s v n xs) (hX:w.heap[X]?=some (.cells cs t fz)) (he:e≠t):v.ownBlock=none\/v.ownBlock≠some X:=by
 rcases h.2 with⟨rfl,_⟩ | ⟨g,cap,cur,rfl,_,f,_⟩
 ·exact .inl rfl
 ·refine .inr λc=>?_;have b:g=X:=bC c;subst b;rw[f] at hX;injection hX with hX;injection hX with _ hX;exact he hX
def cK (w:World) (P:Nat) (txt:List UInt8) (rv:Value) (l:Sp) (nv:Value) (a:Nat) (er:Int):Prop:=
 w.heap[P]?=some (.cells #[.string (bs txt),rv, .int .i64 l.1, .int .i64 l.2,nv, .int .i64 a, .int .i64 er] 209 (0,0))
abbrev Wq (w:World) (P:Nat) (txt:List UInt8) (rv:Value) (l:Sp) (nv:Value) (a:Nat) (er:Int):Prop:=
 w.cell? ⟨P,0,none⟩=some (.string (bs txt))/\w.cell? ⟨P,1,none⟩=some rv/\w.cell? ⟨P,2,none⟩=some (.int .i64 l.1)/\w.cell? ⟨P,3,none⟩=some (.int .i64 l.2)/\w.cell? ⟨P,4,none⟩=some nv/\
 w.cell? ⟨P,5,none⟩=some (.int .i64 a)/\w.cell? ⟨P,6,none⟩=some (.int .i64 er)/\
 w.frozen? ⟨P,1,none⟩=false/\w.frozen? ⟨P,2,none⟩=false/\w.frozen? ⟨P,3,none⟩=false/\w.frozen? ⟨P,4,none⟩=false/\w.frozen? ⟨P,5,none⟩=false/\w.frozen? ⟨P,6,none⟩=false
section
variable {w w':World}{P:Nat}{txt:List UInt8}{rv nv:Value}{l:Sp}{a:Nat}{er:Int}
theorem cK.cells (h:cK w P txt rv l nv a er):Wq w P txt rv l nv a er:=by
 unfold cK at h;refine⟨?_,?_,?_,?_,?_,?_,?_,?_,?_,?_,?_,?_,?_⟩<;>simp[World.cell?,World.frozen?,h]
theorem cK.lt (h:cK w P txt rv l nv a er):P<w.heap.size:=aE h
theorem cK.keep (h:cK w P txt rv l nv a er) (hb:Below w.heap.size w w'):cK w' P txt rv l nv a er:=(hb.block P h.lt).trans h
end
def TV (w:World) (v:Value) (ts:List aS):Prop:= ∃p c,v= .slice p ts.length c/\ts.length<=c/\(ts= []\/ ∃g o cur,p=some ⟨g,o,none⟩/\w.heap[g]?=some (.cells cur 211 (0,0))/\
 ∀(j:Nat) (t:aS),ts[j]?=some t->w.cell? ⟨g,o+j*3,none⟩=some (.int .i64 t.kind)/\w.cell? ⟨g,o+j*3+1,none⟩=some (.int .i64 t.sf)/\w.cell? ⟨g,o+j*3+2,none⟩=some (.int .i64 t.st))
theorem kY {w w':World}{g:Nat} (h:w'.heap[g]?=w.heap[g]?) (o:Nat):w'.cell? ⟨g,o,none⟩=w.cell? ⟨g,o,none⟩:=by
 unfold World.cell?;simp only[h]
theorem TV.same {w w':World}{v:Value}{ts:List aS} (h:TV w v ts) (hs: ∀(g:Nat) (cur:Array Value),w.heap[g]?=some (.cells cur 211 (0,0))->w'.heap[g]?=w.heap[g]?):TV w' v ts:=by
 obtain⟨p,c,i,k,b⟩:=h;refine⟨p,c,i,k,?_⟩;rcases b with b | ⟨g,o,cur,b,f,m⟩
 ·exact .inl b
 ·have e:=hs g cur f;refine .inr ⟨g,o,cur,b,e.trans f,λj t n=>?_⟩;rw[kY e,kY e,kY e];exact m j t n
theorem TV.keep {w w':World}{v:Value}{ts:List aS} (h:TV w v ts) (hb:Below w.heap.size w w'):TV w' v ts:=h.same (λg cur b=>hb.block g (aE b))
theorem TV.head {w:World}{v:Value}{t:aS}{r:List aS} (h:TV w v (t::r)): ∃g o c,v= .slice (some ⟨g,o,none⟩) (r.length+1) c/\r.length+1<=c/\w.cell? ⟨g,o,none⟩=some (.int .i64 t.kind)/\w.cell? ⟨g,o+1,none⟩=some (.int .i64 t.sf)/\w.cell? ⟨g,o+2,none⟩=some (.int .i64 t.st)/\
  TV w (.slice (if c=1 then some ⟨g,o,none⟩ else some ⟨g,o+3,none⟩) r.length (c-1)) r:=by
 obtain⟨p,c,i,f,e⟩:=h;rcases e with e | ⟨g,o,cur,rfl,m,k⟩
 ·cases e
 ·simp only[aL] at i f;have b:=k 0 t rfl;rw[Nat.zero_mul,Nat.add_zero] at b;refine⟨g,o,c,i,f,b.1,b.2.1,b.2.2,_,_,rfl,by omega,?_⟩;cases r with
  | nil=>exact .inl rfl
  | cons u r=>
   refine .inr ⟨g,o+3,cur,if_neg (by simp only[aL] at f;omega),m,λj t n=>?_⟩;have:=k (j+1) t (by simpa using n);rw[show o+(j+1)*3=o+3+j*3 by omega] at this;exact this
theorem TV.empty {w:World}{v:Value} (h:TV w v []): ∃p c,v= .slice p 0 c:=by
 obtain⟨p,c,b,_⟩:=h;exact⟨p,c,b⟩
abbrev ND:=aF×Value×Value
def eO (l:List Nat):List Value:=l.map fun(k:Nat)=>Value.int .i64 (k:Int)
def nB (l:List Sp):List Value:=l.flatMap λs=> [.int .i64 (s.1:Int), .int .i64 (s.2:Int)]
def gD (y:ND):List Value:= [.int .i64 (y.1.kind:Int), .int .i64 (y.1.sf:Int), .int .i64 (y.1.st:Int), .int .i64 (y.1.key.1:Int), .int .i64 (y.1.key.2:Int),y.2.1,y.2.2]
def jW (z:List ND):List Value:=z.flatMap gD
theorem wZ (y:ND) (z:List ND):jW (y::z)=gD y++jW z:=rfl
theorem xA: ∀(z:List ND) (j:Nat) (y:ND),z[j]?=some y-> ∀i,i<7->(jW z)[j*7+i]?=(gD y)[i]?
 | [],j,y,h,i,hi=>by simp at h
 | x::z,0,y,h,i,hi=>by
  obtain rfl:x=y:=by simpa using h
  rw[wZ,Nat.zero_mul,Nat.zero_add,oL (by simpa [gD] using hi)]
 | x::z,j+1,y,h,i,hi=>by
  rw[bM] at h;have:=xA z j y h i hi;rw[wZ,jO (by simp[gD];omega),<-this];congr 1;simp[gD];omega
theorem Ab: ∀(z:List ND) (j:Nat) (y y':ND),z[j]?=some y-> ∀i u,i<7->(gD y).set i u=gD y'->(jW z).set (j*7+i) u=jW (z.set j y')
 | [],j,y,y',h,i,u,hi,hu=>by simp at h
 | x::z,0,y,y',h,i,u,hi,hu=>by
  obtain rfl:x=y:=by simpa using h
  rw[wZ,Nat.zero_mul,Nat.zero_add,List.set_append_left _ _ (by simpa [gD] using hi),hu];rfl
 | x::z,j+1,y,y',h,i,u,hi,hu=>by
  rw[bM] at h;have:=Ab z j y y' h i u hi hu;rw[wZ,List.set_append_right _ _ (by simp[gD];omega),eP,wZ,<-this];congr 2;simp[gD];omega
def sE (f:ND->Value) (z:List ND):Prop:= ∀(i j:Nat) (yi yj:ND),i≠j->z[i]?=some yi->z[j]?=some yj->(f yi).ownBlock=none\/(f yi).ownBlock≠(f yj).ownBlock
theorem sE.push {f:ND->Value}{z:List ND}{y:ND} (h:sE f z) (hy:(f y).ownBlock=none):sE f (z++ [y]):=by
 have key: ∀(j:Nat) (yj:ND),(z++ [y])[j]?=some yj->z[j]?=some yj\/(j=z.length/\yj=y):=by
  intro j yj b;by_cases h2:j<z.length
  ·rw[oL h2] at b;exact .inl b
  ·have g:=(aP.1 b).1;rw[aI,dQ] at g;rw[jO (by omega),show j-z.length=0 by omega] at b;simp only[dG,cP] at b;exact .inr ⟨by omega,b.symm⟩
 intro i j yi yj e c b;rcases key i yi c with c | ⟨c,rfl⟩
 ·rcases key j yj b with b | ⟨b,rfl⟩
  ·exact h i j yi yj e c b
  ·by_cases hn:(f yi).ownBlock=none
   ·exact .inl hn
   ·exact .inr (by rw[hy];exact hn)
 ·exact .inl hy
theorem sE.set {f:ND->Value}{z:List ND}{n:Nat}{y y':ND} (h:sE f z) (hn:z[n]?=some y) (hb:(f y').ownBlock=(f y).ownBlock\/ ∀(j:Nat) (yj:ND),z[j]?=some yj->(f yj).ownBlock≠(f y').ownBlock):sE f (z.set n y'):=by
 intro i j yi yj b e c;rw[List.getElem?_set] at e c;by_cases h1:n=i
 ·subst h1;rw[if_pos rfl,if_pos (aP.1 hn).1] at e;obtain rfl:=bC e;rw[if_neg b] at c;rcases hb with hb | hb
  ·rw[hb];exact h n j y yj b hn c
  ·exact .inr (Ne.symm (hb j yj c))
 ·rw[if_neg h1] at e;by_cases h2:n=j
  ·subst h2;rw[if_pos rfl,if_pos (aP.1 hn).1] at c;obtain rfl:=bC c;rcases hb with hb | hb
   ·rw[hb];exact h i n yi y b e hn
   ·exact .inr (hb i yi e)
  ·rw[if_neg h2] at c;exact h i j yi yj b e c
structure cI (B:Nat) (z:List ND) (nv:Value) (w:World):Prop where
 row:w.ownsRow B 215 7 nv z.length (jW z)
 kids: ∀y∈z,w.ownsRow B 3 1 y.2.1 y.1.kids.length (eO y.1.kids)
 pcs: ∀y∈z,w.ownsRow B 76 2 y.2.2 y.1.pcs.length (nB y.1.pcs)
 ak:sE (λy=>y.2.1) z
 ap:sE (λy=>y.2.2) z
section
variable {B:Nat}{z:List ND}{nv:Value}{w w' w1:World}
theorem cI.keep (h:cI B z nv w) (hb:Below w.heap.size w w'):cI B z nv w':=
 ⟨kX h.row hb,λy b=>kX (h.kids y b) hb,λy b=>kX (h.pcs y b) hb,h.ak,h.ap⟩
theorem cI.other (h:cI B z nv w) {X:Nat}{cs:Array Value}{t:TypeId}{fz:Nat×Nat} (hX:w.heap[X]?=some (.cells cs t fz)) (h1:215≠t) (h2:3≠t) (h3:76≠t) (hg:w.grownBy w' (some X)):cI B z nv w':=
 ⟨h.row.kept hg (dM h.row hX h1),λy b=>(h.kids y b).kept hg (dM (h.kids y b) hX h2),λy b=>(h.pcs y b).kept hg (dM (h.pcs y b) hX h3),h.ak,h.ap⟩
theorem cI.nil (B:Nat) (w:World):cI B [] (.slice none 0 0) w:=
 ⟨⟨rfl, .inl ⟨rfl,rfl⟩⟩,λy b=>(by cases b),λy b=>(by cases b),λi j yi yj _ h=>(by simp at h),λi j yi yj _ h=>(by simp at h)⟩
theorem cI.push (h:cI B z nv w) {nv':Value}{x:aF} (hk:x.kids= []) (hp:x.pcs= []) (hr:w'.ownsRow B 215 7 nv' (z.length+1) (jW z++gD (x, .slice none 0 0, .slice none 0 0))) (hg:w.grownBy w' nv.ownBlock):
  cI B (z++ [(x, .slice none 0 0, .slice none 0 0)]) nv' w':=by
 refine⟨?_,λy b=>?_,λy b=>?_,h.ak.push rfl,h.ap.push rfl⟩
 ·have e:jW (z++ [(x, .slice none 0 0, .slice none 0 0)])=jW z++gD (x, .slice none 0 0, .slice none 0 0):=by unfold jW;simp
  rw[e,aI];exact hr
 ·rcases mZ.1 b with b | b
  ·exact(h.kids y b).kept hg (jA (h.kids y b) h.row (by decide))
  ·rw[jX.1 b];simp only[];rw[hk];exact⟨rfl, .inl ⟨rfl,rfl⟩⟩
 ·rcases mZ.1 b with b | b
  ·exact(h.pcs y b).kept hg (jA (h.pcs y b) h.row (by decide))
  ·rw[jX.1 b];simp only[];rw[hp];exact⟨rfl, .inl ⟨rfl,rfl⟩⟩
theorem cI.form (h:cI B z nv w) (hz:z≠ []): ∃g cap cur,nv= .slice (some ⟨g,0,none⟩) z.length cap/\z.length<=cap/\B<=g/\w.heap[g]?=some (.cells cur 215 (0,0)):=by
 rcases h.row.2 with⟨_,b⟩ | ⟨g,cap,cur,b,c,e,f,_⟩
 ·exact absurd (List.length_eq_zero_iff.1 b) hz
 ·exact⟨g,cap,cur,b,f,c,e⟩
theorem cI.slice (h:cI B z nv w): ∃p cap,nv= .slice p z.length cap:=by
 rcases h.row.2 with⟨c,b⟩ | ⟨g,cap,cur,b,h2,h3,h4,_⟩
 ·exact⟨none,0,by rw[c,b]⟩
 ·exact⟨_,cap,b⟩
theorem cI.at_ {g cap:Nat} (h:cI B z (.slice (some ⟨g,0,none⟩) z.length cap) w) {n:Nat}{y:ND} (hy:z[n]?=some y) (i:Nat) (hi:i<7) {u:Value} (hu:(gD y)[i]?=some u):
  w.cell? ⟨g,n*7+i,none⟩=some u/\w.frozen? ⟨g,n*7+i,none⟩=false:=by
 have hn:=(aP.1 hy).1;refine⟨?_,World.ownsRow.frozenAt h.row _⟩;rw[World.ownsRow.cellAt h.row _ (by omega),xA z n y hy i hi,hu]
theorem cI.field {g cap:Nat} (h:cI B z (.slice (some ⟨g,0,none⟩) z.length cap) w) {n:Nat}{y y':ND} (hy:z[n]?=some y) (i:Nat) (hi:i<7) (u:Value) (hu:(gD y).set i u=gD y') (hk:y'.1.kids=y.1.kids) (hp:y'.1.pcs=y.1.pcs) (h1:y'.2=y.2):
  cI B (z.set n y') (.slice (some ⟨g,0,none⟩) (z.set n y').length cap) (w.setCell ⟨g,n*7+i,none⟩ u):=by
 obtain⟨o,k⟩:=World.ownsRow.stored h.row (n*7+i) u;obtain⟨g',cap',cur,e,_,_,b⟩:=h.form (λe=>by rw[e] at hy;simp at hy);have m:g=g':=by injection e with e;injection e with e;injection e
 subst m;rw[Ab z n y y' hy i u hi hu] at o;have f: ∀x∈z.set n y',x=y'\/x∈z:=λx c=>(List.mem_or_eq_of_mem_set c).symm;refine⟨by rw[List.length_set];exact o,λx c=>?_,λx c=>?_,?_,?_⟩
 ·rcases f x c with rfl | c
  ·rw[hk,h1];have j:=h.kids y (bA hy);exact j.kept k (dM j b (by decide))
  ·exact(h.kids x c).kept k (dM (h.kids x c) b (by decide))
 ·rcases f x c with rfl | c
  ·rw[hp,h1];have j:=h.pcs y (bA hy);exact j.kept k (dM j b (by decide))
  ·exact(h.pcs x c).kept k (dM (h.pcs x c) b (by decide))
 ·exact h.ak.set hy (.inl (by rw[h1]))
 ·exact h.ap.set hy (.inl (by rw[h1]))
theorem cI.kid {g cap:Nat} (h:cI B z (.slice (some ⟨g,0,none⟩) z.length cap) w) {n k:Nat}{y:ND} (hy:z[n]?=some y) {kv:Value}{H:Nat} (hH:w.heap.size<=H)
  (hr:w1.ownsRow B 3 1 kv (y.1.kids.length+1) (eO y.1.kids++ [.int .i64 (k:Int)])) (hg:w.grownBy w1 y.2.1.ownBlock) (hat:kv.ownBlock=y.2.1.ownBlock\/kv.ownBlock=some H):
  cI B (z.set n ({ y.1 with kids:=y.1.kids++ [k] },kv,y.2.2)) (.slice (some ⟨g,0,none⟩) (z.set n ({ y.1 with kids:=y.1.kids++ [k] },kv,y.2.2)).length cap) (w1.setCell ⟨g,n*7+5,none⟩ kv):=by
 have q:=h.kids y (bA hy);have m:=h.row.kept hg (jA h.row q (by decide));obtain⟨s,p⟩:=World.ownsRow.stored m (n*7+5) kv;obtain⟨g',cap',cur,e,_,_,b⟩:=h.form (λe=>by rw[e] at hy;simp at hy);have t:g=g':=by injection e with e;injection e with e;injection e
 subst t;have c:w1.heap[g]?=some (.cells cur 215 (0,0)):=by
  rw[hg.block g (aE b) (λe=>by
   rcases dM q b (by decide) with f | f
   ·rw[f] at e;cases e
   ·exact f e.symm)]
  exact b
 rw[Ab z n y ({ y.1 with kids:=y.1.kids++ [k] },kv,y.2.2) hy 5 kv (by omega) rfl] at s;refine⟨by rw[List.length_set];exact s,λx o=>?_,λx o=>?_,?_,?_⟩
 ·obtain⟨j,i⟩:=List.getElem?_of_mem o;rw[List.getElem?_set] at i;by_cases hnj:n=j
  ·subst hnj;rw[if_pos rfl,if_pos (aP.1 hy).1] at i;obtain rfl:=bC i;have e:eO (y.1.kids++ [k])=eO y.1.kids++ [.int .i64 (k:Int)]:=by unfold eO;simp
   simp only[e,aI,dQ];exact hr.kept p (dM hr c (by decide))
  ·rw[if_neg hnj] at i;have r:=h.kids x (bA i);have f:=r.kept hg (h.ak j n x y (Ne.symm hnj) i hy);exact f.kept p (dM f c (by decide))
 ·have key: ∀x∈z,(w1.setCell ⟨g,n*7+5,none⟩ kv).ownsRow B 76 2 x.2.2 x.1.pcs.length (nB x.1.pcs):=λx o=>by
   have r:=h.pcs x o;have f:=r.kept hg (jA r q (by decide));exact f.kept p (dM f c (by decide))
  rcases List.mem_or_eq_of_mem_set o with o | rfl
  ·exact key x o
  ·exact key y (bA hy)
 ·refine h.ak.set hy ?_;rcases hat with hat | hat
  ·exact .inl hat
  ·refine .inr (λj yj i e=>?_);have r:=h.kids yj (bA i);simp only[] at e;rw[hat] at e;have:=(World.ownsRow.lt r H e).2;omega
 ·exact h.ap.set hy (.inl rfl)
theorem cI.pc {g cap:Nat} (h:cI B z (.slice (some ⟨g,0,none⟩) z.length cap) w) {n:Nat}{k:Sp}{y:ND} (hy:z[n]?=some y) {kv:Value}{H:Nat} (hH:w.heap.size<=H)
  (hr:w1.ownsRow B 76 2 kv (y.1.pcs.length+1) (nB y.1.pcs++ [.int .i64 (k.1:Int), .int .i64 (k.2:Int)])) (hg:w.grownBy w1 y.2.2.ownBlock) (hat:kv.ownBlock=y.2.2.ownBlock\/kv.ownBlock=some H):
  cI B (z.set n ({ y.1 with pcs:=y.1.pcs++ [k] },y.2.1,kv)) (.slice (some ⟨g,0,none⟩) (z.set n ({ y.1 with pcs:=y.1.pcs++ [k] },y.2.1,kv)).length cap) (w1.setCell ⟨g,n*7+6,none⟩ kv):=by
 have q:=h.pcs y (bA hy);have m:=h.row.kept hg (jA h.row q (by decide));obtain⟨s,p⟩:=World.ownsRow.stored m (n*7+6) kv;obtain⟨g',cap',cur,e,_,_,b⟩:=h.form (λe=>by rw[e] at hy;simp at hy);have t:g=g':=by injection e with e;injection e with e;injection e
 subst t;have c:w1.heap[g]?=some (.cells cur 215 (0,0)):=by
  rw[hg.block g (aE b) (λe=>by
   rcases dM q b (by decide) with f | f
   ·rw[f] at e;cases e
   ·exact f e.symm)]
  exact b
 rw[Ab z n y ({ y.1 with pcs:=y.1.pcs++ [k] },y.2.1,kv) hy 6 kv (by omega) rfl] at s;refine⟨by rw[List.length_set];exact s,λx o=>?_,λx o=>?_,?_,?_⟩
 ·have key: ∀x∈z,(w1.setCell ⟨g,n*7+6,none⟩ kv).ownsRow B 3 1 x.2.1 x.1.kids.length (eO x.1.kids):=λx o=>by
   have r:=h.kids x o;have f:=r.kept hg (jA r q (by decide));exact f.kept p (dM f c (by decide))
  rcases List.mem_or_eq_of_mem_set o with o | rfl
  ·exact key x o
  ·exact key y (bA hy)
 ·obtain⟨j,i⟩:=List.getElem?_of_mem o;rw[List.getElem?_set] at i;by_cases hnj:n=j
  ·subst hnj;rw[if_pos rfl,if_pos (aP.1 hy).1] at i;obtain rfl:=bC i;have e:nB (y.1.pcs++ [k])=nB y.1.pcs++ [.int .i64 (k.1:Int), .int .i64 (k.2:Int)]:=by unfold nB;simp
   simp only[e,aI,dQ];exact hr.kept p (dM hr c (by decide))
  ·rw[if_neg hnj] at i;have r:=h.pcs x (bA i);have f:=r.kept hg (h.ap j n x y (Ne.symm hnj) i hy);exact f.kept p (dM f c (by decide))
 ·exact h.ak.set hy (.inl rfl)
 ·refine h.ap.set hy ?_;rcases hat with hat | hat
  ·exact .inl hat
  ·refine .inr (λj yj i e=>?_);have r:=h.pcs yj (bA i);simp only[] at e;rw[hat] at e;have:=(World.ownsRow.lt r H e).2;omega
end
def Dl (t:TypeId):Bool:=t==215||t==3||t==76
def Ac (o:Obj):Prop:=match o with
 | .cells _ t _=>Dl t=false
 | _=>True
structure Fr (B P:Nat) (w w':World):Prop where
 bel:Below B w w'
 sz:w.heap.size<=w'.heap.size
 blk: ∀(k:Nat) (o:Obj),w.heap[k]?=some o->k≠P->Ac o->w'.heap[k]?=some o
theorem Fr.trans {B P:Nat}{w w1 w2:World} (h1:Fr B P w w1) (h2:Fr B P w1 w2):Fr B P w w2:=
 ⟨h1.bel.trans h2.bel,aV h1.sz h2.sz,λk o c hP b=>h2.blk k o (h1.blk k o c hP b) hP b⟩
theorem Fr.refl (B P:Nat) (w:World):Fr B P w w:=⟨aB _ _,aD _,λ_ _ h _ _=>h⟩
theorem Fr.of_below {B P:Nat}{w w':World} (h:Below w.heap.size w w') (hB:B<=w.heap.size):Fr B P w w':=
 ⟨h.mono hB,h.size,λk o b _ _=>by rw[h.block k (aE b)];exact b⟩
theorem Fr.setP {B P i:Nat}{w:World}{u:Value} (hP:B<=P):Fr B P w (w.setCell ⟨P,i,none⟩ u):=
 ⟨(aB B w).setCell (p:=⟨P,i,none⟩) hP u,by simp[World.setCell],λk o c b _=>by rw[eQ _ _ _ k b];exact c⟩
theorem Fr.setM {B P X i:Nat}{w:World}{u:Value}{cs:Array Value}{t:TypeId}{fz:Nat×Nat} (hX:w.heap[X]?=some (.cells cs t fz)) (ht:Dl t=true) (hB:B<=X):Fr B P w (w.setCell ⟨X,i,none⟩ u):=
 ⟨(aB B w).setCell (p:=⟨X,i,none⟩) hB u,by simp[World.setCell],λk o c hne b=>by rw[eQ _ _ _ k (λe=>by subst e;rw[c] at hX;obtain rfl:=bC hX;unfold Ac at b;simp only[] at b;rw[ht] at b;cases b)];exact c⟩
theorem Fr.grown {B P:Nat}{w w':World}{e:TypeId}{s:Nat}{v:Value}{n:Nat}{xs:List Value} (hr:w.ownsRow B e s v n xs) (ht:Dl e=true) (hg:w.grownBy w' v.ownBlock) (hB:B<=w.heap.size):Fr B P w w':=
 ⟨(aB B w).grown hg hB (λk c=>(World.ownsRow.lt hr k c).1),hg.size,λk o c hne f=>by
  rw[hg.block k (aE c) (λe=>by
   rcases hr.2 with⟨rfl,_⟩ | ⟨g,cap,cur,rfl,_,b,_⟩
   ·cases e
   ·obtain rfl:k=g:=bC e;rw[c] at b;obtain rfl:=bC b;unfold Ac at f;simp only[] at f;rw[ht] at f;cases f)]
  exact c⟩
end
section
open Go.RowKit
section
variable {P:Program}{ops:Array Oper}{Q:Exit->Act->World->Prop}{md:Region.Mode}
theorem Ju (L:Array Bool) (i:Nat) (h:L.getD i true=false):(L.setIfInBounds i true).toList.countP (λb=>!b)+1=L.toList.countP (λb=>!b):=by
 have c:i<L.toList.length:=by
  rw[Array.length_toList];by_cases c:i<L.size
  ·exact c
  ·rw[aU,Array.getElem?_eq_none (by omega)] at h;cases h
 have e:L.toList[i]=false:=by
  rw[aU,Array.getElem?_eq_getElem (by simpa using c)] at h;simpa using h
 rw[Array.toList_setIfInBounds,List.countP_set c,e];have:0<L.toList.countP (λb=>!b):=List.countP_pos_iff.2 ⟨false,by rw[<-e];exact List.getElem_mem c,rfl⟩;simp only[Bool.not_false,Bool.not_true,if_true,Bool.false_eq_true,if_false];omega
theorem Ws (Inv:Array Bool->Act->World->Prop)
  (hs: ∀(L:Array Bool) (a:Act) (w:World) (i:Nat) (o:Oper),L.size=ops.size->ops[i]?=some o->L.getD i true=false->(∀e∈o.after,Region.binds md e=true->L.getD e.on false=true)->Inv L a w->
   ∀K:Act->World->Prop,(∀a' w',Inv (L.setIfInBounds i true) a' w'->K a' w')->if Region.wanted o (yielded ops a.tmps)=true then o.wp P a w K Q else K (a.put o.dst undef) w)
  (hd: ∀(L:Array Bool) (a:Act) (w:World),L.size=ops.size->Inv L a w->Region.ready md ops L= []->Q .normal a w):
  ∀(fuel:Nat) (L:Array Bool) (a:Act) (w:World),L.size=ops.size->L.toList.countP (λb=>!b)<=fuel->Inv L a w->wpAny P md ops Q fuel L a w:=by
 intro fuel
 induction fuel with
 | zero=>
  intro L a w f q g;have j:Region.ready md ops L= []:=by
   rw[List.eq_nil_iff_forall_not_mem];intro i k;have:=Ju L i (mem_ready.1 k).1;omega
  exact⟨j,hd L a w f g j⟩
 | succ fuel ih=>
  intro L a w f q g;refine⟨λj=>hd L a w f g j,λi k=>?_⟩;obtain⟨m,o,n,c⟩:=mem_ready.1 k;refine wpOp_step n λK p=>hs L a w i o f n m c g K λa' w' h=>p a' w' (ih _ _ _ (by simpa using f) ?_ h);have:=Ju L i m;omega
theorem Jv {id:Nat}{a:Act}{w:World} (hm:P.follows .mixedOrders=true) (Inv:Array Bool->Act->World->Prop)
  (h0:Inv (Array.replicate ops.size false) a w.drew)
  (hs: ∀(L:Array Bool) (a:Act) (w:World) (i:Nat) (o:Oper),L.size=ops.size->ops[i]?=some o->L.getD i true=false->(∀e∈o.after,Region.binds .any e=true->L.getD e.on false=true)->Inv L a w->
   ∀K:Act->World->Prop,(∀a' w',Inv (L.setIfInBounds i true) a' w'->K a' w')->if Region.wanted o (yielded ops a.tmps)=true then o.wp P a w K Q else K (a.put o.dst undef) w)
  (hd: ∀(L:Array Bool) (a:Act) (w:World),L.size=ops.size->Inv L a w->Region.ready .any ops L= []->Q .normal a w):(Code.region id ops true).wp P Q a w:=by
 refine wp_region_any hm (Ws Inv hs hd ops.size _ a _ (by simp) ?_ h0);rw[Array.toList_replicate,List.countP_replicate];split<;>omega
end
def xB (ops:Array Oper):Bool:=(List.range ops.size).all λi=>match ops[i]? with
 | some o=>o.after.toList.all (λe=>!Region.binds .any e||decide (e.on<i))&&o.guard.isNone
 | none=>true
theorem Dm {ops:Array Oper} (h:xB ops=true) {i:Nat}{o:Oper} (ho:ops[i]?=some o):(∀e∈o.after,Region.binds .any e=true->e.on<i)/\o.guard=none:=by
 have c:=(dW.1 ho).1;have:=eH.1 h i (List.mem_range.2 c);rw[ho] at this;simp only[bV] at this;refine⟨λe b f=>?_,Option.isNone_iff_eq_none.1 this.2⟩;have:=eH.1 this.1 e (Array.mem_toList_iff.2 b);rw[f,Bool.not_true,Bool.false_or] at this;exact of_decide_eq_true this
theorem Wt {ops:Array Oper} (h:xB ops=true) {L:Array Bool} (hL:L.size=ops.size) (hr:Region.ready .any ops L= []): ∀i,i<ops.size->L.getD i false=true:=by
 intro i
 induction i using Nat.strongRecOn with
 | _ i ih=>
  intro j;obtain⟨o,b⟩: ∃o,ops[i]?=some o:=⟨_,Array.getElem?_eq_getElem j⟩;cases hc:L.getD i false with
  | true=>rfl
  | false=>
   have f:i∈Region.ready .any ops L:=mem_ready.2 ⟨by rw[aU,Array.getElem?_eq_getElem (by omega)] at hc ⊢;simpa using hc,o,b,λe c g=>ih _ ((Dm h b).1 e c g) (by have:=(Dm h b).1 e c g;omega)⟩;rw[hr] at f;cases f
def cV (t:Array Value) (v:Nat->Value):List Nat->Array Value
 | []=>t
 | k::ks=>(cV t v ks).setIfInBounds k (v k)
theorem Ad (t:Array Value) (v:Nat->Value): ∀ks,(cV t v ks).size=t.size
 | []=>rfl
 | k::ks=>by rw[cV,Array.size_setIfInBounds,Ad t v ks]
theorem Dn (t:Array Value) (v:Nat->Value) (j:Nat) (hj:j<t.size): ∀ks,(cV t v ks)[j]?=if j∈ks then some (v j) else t[j]?
 | []=>by simp[cV]
 | k ::ks=>by
  rw[cV,Jw];by_cases h:k=j
  ·subst h;rw[if_pos rfl,Ad,if_pos hj,if_pos fV]
  ·rw[if_neg h,Dn t v j hj ks];by_cases hm:j∈ks
   ·rw[if_pos hm,if_pos (List.mem_cons_of_mem _ hm)]
   ·rw[if_neg hm,if_neg (by
     rw[eV];rintro(h2 | h2)
     ·exact h h2.symm
     ·exact hm h2)]
def bK (d:Nat->Bool) (i:Nat):Nat->Bool:=λj=>if j=i then true else d j
def dH (v:Nat->Value) (t:Option Tmp) (x:Value):Nat->Value:=match t with
 | some t=>λk=>if k=t then x else v k
 | none=>v
theorem Ae (a:Act) (t:Option Tmp) (x:Value) (ht: ∀k,t=some k->k<a.tmps.size):(λk=>(a.put t x).tmps.getD k undef)=dH (λk=>a.tmps.getD k undef) t x:=by
 funext k;cases t with
 | none=>rfl
 | some t=>
  show (a.tmps.setIfInBounds t x).getD k undef=if k=t then x else a.tmps.getD k undef;rw[aU,Jw];by_cases h:t=k
  ·subst h;rw[if_pos rfl,if_pos (ht t rfl),if_pos rfl];rfl
  ·rw[if_neg h,if_neg (Ne.symm h),aU]
theorem Jy (L:Array Bool) (i:Nat) (hi:i<L.size):(λj=>(L.setIfInBounds i true).getD j false)=bK (λj=>L.getD j false) i:=by
 funext j;unfold bK;rw[aU,Jw];by_cases h:i=j
 ·subst h;rw[if_pos rfl,if_pos hi,if_pos rfl];rfl
 ·rw[if_neg h,if_neg (Ne.symm h)];show _=L.getD j false;rw[aU]
def vG (ops:Array Oper) (K:List Nat) (n:Nat):Bool:=ops.toList.all λo=>match o.dst with
 | some t=>K.contains t&&decide (t<n)
 | none=>true
theorem vH {ops:Array Oper}{K:List Nat}{n:Nat} (h:vG ops K n=true) {i:Nat}{o:Oper} (ho:ops[i]?=some o): ∀t,o.dst=some t->t∈K/\t<n:=by
 intro t b;have:=eH.1 h o (Array.mem_toList_iff.2 (Array.mem_of_getElem? ho));rw[b] at this;simp only[bV,eA] at this;exact⟨by simpa using this.1,this.2⟩
theorem Do {P:Program}{ops:Array Oper}{Q:Exit->Act->World->Prop}{id:Nat}{a0:Act}{w0:World} (hm:P.follows .mixedOrders=true) (K:List Nat) (n:Nat) (hn:a0.tmps.size=n) (hback:xB ops=true) (hdst:vG ops K n=true)
  (F:(Nat->Bool)->(Nat->Value)->World->Prop) (h0:F (λ_=>false) (λk=>a0.tmps.getD k undef) w0.drew)
  (hs: ∀(d:Nat->Bool) (a:Act) (w:World) (i:Nat) (o:Oper),ops[i]?=some o->d i=false->(∀e∈o.after,Region.binds .any e=true->d e.on=true)->(∀k,k ∉ K->a.tmps.getD k undef=a0.tmps.getD k undef)->F d (λk=>a.tmps.getD k undef) w->
   ∀R:Act->World->Prop,(∀x w',F (bK d i) (dH (λk=>a.tmps.getD k undef) o.dst x) w'->R (a.put o.dst x) w')->o.wp P a w R Q)
  (hd: ∀(v:Nat->Value) (w:World),F (λi=>decide (i<ops.size)) v w->Q .normal { a0 with tmps:=cV a0.tmps v K } w):(Code.region id ops true).wp P Q a0 w0:=by
 subst hn;refine Jv hm (λL a w=>(a.defers=a0.defers/\a.tmps.size=a0.tmps.size/\ ∀k,k ∉ K->a.tmps.getD k undef=a0.tmps.getD k undef)/\F (λi=>L.getD i false) (λk=>a.tmps.getD k undef) w) ⟨⟨rfl,rfl,λk _=>rfl⟩,?_⟩ ?_ ?_
 ·have:(λi=>(Array.replicate ops.size false).getD i false)=λ_=>false:=by
   funext i;rw[aU,Array.getElem?_replicate];split<;>rfl
  rw[this];exact h0
 ·intro L a w i o D m g b C R M;obtain⟨⟨u,f,p⟩,y⟩:=C;have r:i<L.size:=by rw[D];exact(dW.1 m).1
  have G:Region.wanted o (yielded ops a.tmps)=true:=by simp[Region.wanted,(Dm hback m).2]
  rw[if_pos G];refine hs (λi=>L.getD i false) a w i o m ?_ b p y R λx w' E=>M _ _ ⟨⟨?_,?_,λk A=>?_⟩,?_⟩
  ·rw[aU,Array.getElem?_eq_getElem r] at g ⊢;simpa using g
  ·unfold Act.put;cases o.dst<;>exact u
  ·unfold Act.put;cases o.dst
   ·exact f
   ·rw[Array.size_setIfInBounds];exact f
  ·rw[<-p k A];have H:=congrFun (Ae a o.dst x (λt s=>by rw[f];exact(vH hdst m t s).2)) k;have e: ∀t,o.dst=t->dH (λk=>a.tmps.getD k undef) t x k=a.tmps.getD k undef:=λt s=>by
    cases t with
    | none=>rfl
    | some t=>exact if_neg (λh=>A (by rw[h];exact(vH hdst m t s).1))
   exact H.trans (e _ rfl)
  ·rw[Jy L i r,Ae a o.dst x (λt s=>by rw[f];exact(vH hdst m t s).2)];exact E
 ·intro L a w D C J;obtain⟨⟨u,f,p⟩,y⟩:=C;have b:=Wt hback D J;have q:(λi=>L.getD i false)=λi=>decide (i<ops.size):=by
   funext i;by_cases g:i<ops.size
   ·rw[b i g,aN g]
   ·rw[aJ g,aU,Array.getElem?_eq_none (by omega)];rfl
  rw[q] at y;have:=hd _ w y;have I:a= { a0 with tmps:=cV a0.tmps (λk=>a.tmps.getD k undef) K }:=by
   cases a with
   | mk tmps defers=>
    simp only at u f p ⊢;rw[u];congr 1;refine Array.ext_getElem? λj=>?_;by_cases hj:j<a0.tmps.size
    ·rw[Dn _ _ j hj];have c:tmps[j]?=some (tmps.getD j undef):=by rw[aU,Array.getElem?_eq_getElem (by omega)];rfl
     split
     ·exact c
     ·rename_i A;rw[c,p j A,aU,Array.getElem?_eq_getElem hj];rfl
    ·rw[Array.getElem?_eq_none (by omega),Array.getElem?_eq_none (by rw[Ad];omega)]
  rw[I];exact this
section
variable {dst dead:Nat->Nat}{own:Nat->Bool}{claim:Nat->Value->World->Prop}{B:Nat}{w0 w w':World}{d:Nat->Bool}{v:Nat->Value}
theorem nC {d:Nat->Bool}{i j:Nat} (h:j≠i):bK d i j=d j:=if_neg h
theorem xC {d:Nat->Bool}{i:Nat}:bK d i i=true:=if_pos rfl
end
end
end Go.Proofs.YtjnooaljcgkfpaaGreatDoor
