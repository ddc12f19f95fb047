import Derived.Test.YtlibkhbachmcgaaGreatDoorRd29
import Derived.Test.YtlibkhbachmcgaaGreatDoorRd26
import Derived.Test.YtlibkhbachmcgaaGreatDoorRd27
import Derived.Test.YtlibkhbachmcgaaGreatDoorRd16
import Derived.Test.YtlibkhbachmcgaaGreatDoorRd14
import Derived.Test.YtlibkhbachmcgaaGreatDoorRd21
import Derived.Deep.RegionHeld3
import Derived.Shelf.Vars
import Derived.Test.YtlibkhbachmcgaaGreatDoorCards
import Derived.Test.YtlibkhbachmcgaaGreatDoorTie
import Derived.Lib.LaidIn
import Derived.Lib.LaidU8T
import Derived.PinnedBridge
import Derived.Lib.TrailingZeros
import Derived.Test.YtlibkhbachmcgaaGreatDoorRows
import Derived.ChangeMaps5
import Derived.ChangeArms
import Derived.ChangeSame
import Derived.ChangeSlices
import Derived.OpenShut
import Derived.Carry
import Derived.Deep.Slices
import Derived.Lib.SmallJoins
import Derived.KernelRfl
set_option maxRecDepth 100000
set_option maxHeartbeats 8000000
namespace Go.Proofs.YtlibkhbachmcgaaGreatDoor
set_option linter.unusedSimpArgs false
set_option linter.unusedVariables false
open Go.Lib hiding intOf
theorem lineL_put {s t:Stp}{a:Nat} (hs:(s.drop a).take t.length=t) (hl:a+t.length≤s.length) {r:LineR}{y:Int} (h:lineL t 0 (t.length:Int)=(r,y,0)) (hk:r.kind=4):
  ∃r',lineL s (a:Int) ((a+t.length:Nat):Int)=(r',((a+t.length:Nat):Int),0)∧r'.kind=4∧r'.ind=r.ind∧r'.kf=a+r.kf∧r'.kt=a+r.kt∧r'.rf=a+r.rf∧r'.rt=a+r.rt:=by
 unfold lineL at h ⊢
 rw[if_neg (by omega)] at h ⊢
 have e0:(t.drop (0:Int).toNat).take ((t.length:Int)-0).toNat=t:=by
  rw[show (0:Int).toNat=0 from rfl,List.drop_zero,show ((t.length:Int)-0).toNat=t.length by omega,List.take_length]
 have e1:(s.drop (a:Int).toNat).take (((a+t.length:Nat):Int)-a).toNat=t:=by
  rw[Int.toNat_natCast,show (((a+t.length:Nat):Int)-a).toNat=t.length by omega];exact hs
 simp only[e0,e1] at h ⊢
 by_cases h10:t.contains 10=true
 ·rw[if_pos h10] at h;injection h with _ h;injection h with _ h;omega
 rw[if_neg h10] at h ⊢
 by_cases hw:wrL true t<t.length
 ·rw[if_pos hw] at h;injection h with _ h;injection h with _ h;omega
 rw[if_neg hw] at h ⊢
 cases hc:coreL (t.drop (spL t)) with
 | none=>rw[hc] at h;injection h with _ h;injection h with _ h;omega
 | some c=>
  rw[hc] at h
  injection h with h _
  subst h
  have h4:c.kind=4:=by have h5:((c.kind:Nat):Int)=4:=hk;omega
  refine⟨_,rfl,?_⟩
  simp only[lineOf,h4,if_true]
  refine⟨rfl,trivial,?_⟩<;>first | (refine⟨?_,?_,?_,?_⟩<;>omega) | skip
theorem lineL_blank {s:Stp}{a:Nat} (hl:a≤s.length): ∃r',lineL s (a:Int) (a:Int)=(r',(a:Int),0)∧r'.kind=1∧r'.ind=0:=by
 unfold lineL
 rw[if_neg (by omega)]
 have e1:(s.drop (a:Int).toNat).take ((a:Int)-a).toNat= []:=by
  rw[show ((a:Int)-a).toNat=0 by omega,List.take_zero]
 simp only[e1]
 rw[if_neg (by simp),if_neg (by simp[wrL])]
 exact⟨_,rfl,rfl,rfl⟩
theorem nextG_blanks (s:Stp) (x:Nat×Nat) (r:List (Nat×Nat)) {rx:LineR}{yx:Int} (hx:lineL s x.1 x.2=(rx,yx,0)) (hk:contentB rx=true): ∀(bl:List (Nat×Nat)) (ls:List LineR),(∀y∈bl,y.1=y.2∧y.2≤s.length)→
  ∃bs,(bs.length=bl.length∧ ∀y∈bs,y.ind=0)∧nextG s (bl++x::r) ls.length ls= .ok (ls.length+bl.length) (ls++bs++ [rx])
 | [],ls,_=>by
  refine⟨[],⟨rfl,fun y hy=>(by cases hy)⟩,?_⟩
  show nextG s (x::r) ls.length ls=_
  unfold nextG
  rw[List.getElem?_eq_none (Nat.le_refl _)]
  simp only[hx]
  rw[if_neg (by simp),if_pos hk,List.append_nil]
  rfl
 | y::bl,ls,hb=>by
  obtain⟨hy1,hy2⟩:=hb y (List.mem_cons_self ..)
  obtain⟨r',h1,h2,h2i⟩:=lineL_blank hy2
  have hy:lineL s y.1 y.2=(r',(y.2:Int),0):=by rw[hy1];exact h1
  have hkb:contentB r'=false:=by unfold contentB;rw[h2];rfl
  obtain⟨bs,⟨h3,h3i⟩,h4⟩:=nextG_blanks s x r hx hk bl (ls++ [r']) (fun z hz=>hb z (List.mem_cons_of_mem _ hz))
  refine⟨r'::bs,⟨by rw[List.length_cons,h3,List.length_cons],fun z hz=>by
   rcases List.mem_cons.1 hz with e | hz
   ·rw[e];exact h2i
   ·exact h3i z hz⟩,?_⟩
  rw[List.cons_append]
  unfold nextG
  rw[List.getElem?_eq_none (Nat.le_refl _)]
  simp only[hy]
  rw[if_neg (by simp),if_neg (by rw[hkb];simp)]
  rw[List.length_append,List.length_singleton] at h4
  rw[h4]
  congr 1
  ·rw[List.length_cons];omega
  ·simp
theorem linesL_run: ∀(A R:Stp) (k pos:Nat),A.contains 10=false→linesL (A++10::R) k pos=(k,pos+A.length+1)::linesL R (pos+A.length+1) (pos+A.length+1)
 | [],R,k,pos,_=>by
  show linesL (10::R) k pos=(k,pos+1)::linesL R (pos+1) (pos+1)
  conv=>lhs;unfold linesL
  rw[if_pos rfl]
 | c::A,R,k,pos,h=>by
  rw[List.contains_cons,Bool.or_eq_false_iff] at h
  have hc: ¬c=10:=fun e=>by rw[e] at h;simp at h
  rw[List.cons_append]
  conv=>lhs;unfold linesL
  rw[if_neg hc,linesL_run A R k (pos+1) h.2,List.length_cons,show pos+1+A.length+1=pos+(A.length+1)+1 by omega]
theorem linesL_last: ∀(A:Stp) (k pos:Nat),A.contains 10=false→linesL A k pos= [(k,pos+A.length)]
 | [],k,pos,_=>rfl
 | c::A,k,pos,h=>by
  rw[List.contains_cons,Bool.or_eq_false_iff] at h
  have hc: ¬c=10:=fun e=>by rw[e] at h;simp at h
  unfold linesL
  rw[if_neg hc,linesL_last A k (pos+1) h.2,List.length_cons,show pos+1+A.length=pos+(A.length+1) by omega]
theorem linesL_ne': ∀(l:Stp) (k pos:Nat),linesL l k pos≠ []
 | [],_,_=>by simp[linesL]
 | c::l,k,pos=>by
  unfold linesL
  split
  ·simp
  ·exact linesL_ne' l k (pos+1)
theorem cutSp_cons (x:Nat×Nat) {l:List (Nat×Nat)} (h:l≠ []):cutSp (x::l)=(x.1,x.2-1)::cutSp l:=by
 cases l with
 | nil=>exact absurd rfl h
 | cons y r=>rfl
theorem feeds_spans (A:Stp) (hA:A.contains 10=false): ∀(j pos:Nat),∃bl:List (Nat×Nat),bl.length=j∧(∀y∈bl,y.1=y.2∧y.2≤pos+j)∧cutSp (linesL (List.replicate j 10++A) pos pos)=bl++ [(pos+j,pos+j+A.length)]
 | 0,pos=>⟨[],rfl,by simp,by rw[List.replicate_zero,List.nil_append,linesL_last A pos pos hA];rfl⟩
 | j+1,pos=>by
  obtain⟨bl,h1,h2,h3⟩:=feeds_spans A hA j (pos+1)
  refine⟨(pos,pos)::bl,by rw[List.length_cons,h1],?_,?_⟩
  ·intro y hy
   rcases List.mem_cons.1 hy with rfl | hy
   ·exact⟨rfl,by show pos≤_;omega⟩
   ·have:=h2 y hy;omega
  ·rw[List.replicate_succ,List.cons_append]
   have:=linesL_run [] (List.replicate j 10++A) pos pos rfl
   rw[List.nil_append] at this
   rw[this,cutSp_cons _ (linesL_ne' _ _ _)]
   simp only[List.length_nil,Nat.add_zero]
   rw[h3,show pos+1+j=pos+(j+1) by omega]
   rfl
theorem one_tx: ∀c:UInt8,c=49∨c=50→TxOk [c]:=by
 intro c hc
 refine bare_tx ?_
 rcases hc with rfl | rfl<;>decide+kernel
theorem read_one: ∀c:UInt8,c=49∨c=50→readY [c]=(.mk 3 [c] [] [],0):=by
 intro c hc
 rcases hc with rfl | rfl<;>rfl
theorem slI_mid (p t q:Stp):slI (p++t++q) (p.length:Int) ((p.length+t.length:Nat):Int)=t:=by
 unfold slI
 rw[Int.toNat_natCast,Int.toNat_natCast,List.append_assoc,List.drop_left,show p.length+t.length-p.length=t.length by omega,List.take_left]
theorem value_one {s:Stp}{sp:List (Nat×Nat)}{B:YB}{lv k:Nat}{kf kt:Int}{st:YS}{c:UInt8} (hc:c=49∨c=50) (ht:slI s (lnAt st.lines k).rf (lnAt st.lines k).rt= [c]) (hlv:1≤lv) (hn:st.total<4095):
  ymValue s sp B lv k kf kt st= .ok st.nodes.length ⟨st.lines,st.nodes++ [⟨1,(lnAt st.lines k).ind,k,k+1,kf,kt,(lnAt st.lines k).rf,(lnAt st.lines k).rt,[]⟩],st.total+1⟩:=by
 unfold ymValue
 simp only[ht]
 rw[if_neg (by rcases hc with rfl | rfl<;>decide),if_neg (by simp)]
 unfold restM addM
 rw[if_neg (by omega),if_neg (by omega)]
 simp only[ht,read_one c hc]
 have hd:(VT.mk 3 [c] [] []).depth=1:=by rcases hc with rfl | rfl<;>rfl
 have hz:(VT.mk 3 [c] [] []).size=1:=by rcases hc with rfl | rfl<;>rfl
 rw[if_neg (by simp),hd,hz,if_neg (by omega),if_neg (by omega)]
 rfl
theorem lnAt_mid (a:List LineR) (r:LineR) (b:List LineR):lnAt (a++r::b) a.length=r:=by
 unfold lnAt
 rw[List.getElem?_append_right (Nat.le_refl _),Nat.sub_self]
 rfl
theorem two_members (txt:Stp) (n0 q e k:Nat) (bl:List (Nat×Nat)) (hbl:bl.length=k) (hb: ∀y∈bl,y.1=y.2∧y.2≤txt.length) {r0 r1:LineR}{y0 y1:Int} (a b:Stp)
  (h0:lineL txt 0 n0=(r0,y0,0)) (k0:r0.kind=4) (i0:r0.ind=0) (K0:keyRd (slI txt r0.kf r0.kt)=(a,0)) (R0:slI txt r0.rf r0.rt= [49])
  (h1:lineL txt q e=(r1,y1,0)) (k1:r1.kind=4) (i1:r1.ind=0) (K1:keyRd (slI txt r1.kf r1.kt)=(b,0)) (R1:slI txt r1.rf r1.rt= [50]):
  ∃bs:List LineR,(bs.length=k∧ ∀y∈bs,y.ind=0)∧ymWhole txt ((0,n0)::(bl++ [(q,e)]))=if a=b then(⟨[],[]⟩,r1.kf,7) else
   (⟨r0::(bs++ [r1]),[⟨3,0,0,k+2,0,0,0,0,[1,2]⟩,⟨1,0,0,1,r0.kf,r0.kt,r0.rf,r0.rt,[]⟩,⟨1,0,k+1,k+2,r1.kf,r1.kt,r1.rf,r1.rt,[]⟩]⟩,(txt.length:Int),0):=by
 have c0:contentB r0=true:=by unfold contentB;rw[k0];rfl
 have c1:contentB r1=true:=by unfold contentB;rw[k1];rfl
 obtain⟨sp,hsp⟩: ∃sp,(0,n0)::(bl++ [(q,e)])=sp:=⟨_,rfl⟩
 have hspl:sp.length=k+2:=by rw[←hsp];simp[hbl]
 obtain⟨b0,⟨hb0,_⟩,g0⟩:=nextG_blanks txt (0,n0) (bl++ [(q,e)]) h0 c0 [] [] (by simp)
 obtain rfl:b0= []:=List.eq_nil_of_length_eq_zero hb0
 obtain⟨bs,⟨hbs,hbi⟩,g1⟩:=nextG_blanks txt (q,e) [] h1 c1 bl [r0] hb
 refine⟨bs,⟨by rw[hbs,hbl],hbi⟩,?_⟩
 have N0:nextM txt sp 0 []= .ok 0 [r0]:=by unfold nextM;rw[←hsp];exact g0
 have N1:nextM txt sp 1 [r0]= .ok (k+1) (r0::(bs++ [r1])):=by
  unfold nextM
  rw[←hsp]
  have: [r0].length+bl.length=k+1:=by rw[hbl];simp;omega
  rw[this] at g1
  exact g1
 have N2: ∀ls,nextM txt sp (k+2) ls= .ok (k+2) ls:=by
  intro ls
  unfold nextM
  rw[List.drop_of_length_le (by omega)]
  rfl
 have l0:lnAt [r0] 0=r0:=rfl
 have l1:lnAt (r0::(bs++ [r1])) (k+1)=r1:=by
  have:=lnAt_mid (r0::bs) r1 []
  rw[List.length_cons,hbs,hbl] at this
  exact this
 have l2:lnAt (r0::(bs++ [r1])) 0=r0:=rfl
 rw[hsp]
 unfold ymWhole
 rw[N0]
 simp only[]
 rw[if_neg (by omega)]
 have hB:ymBlock txt sp 32 0 0 0 ⟨[r0],[],0⟩=if a=b then .bad r1.kf 7 else .ok 0 ⟨r0::(bs++ [r1]),[⟨3,0,0,k+2,0,0,0,0,[1,2]⟩,⟨1,0,0,1,r0.kf,r0.kt,r0.rf,r0.rt,[]⟩,⟨1,0,k+1,k+2,r1.kf,r1.kt,r1.rf,r1.rt,[]⟩],3⟩:=by
  show ymBlockS txt sp (ymValue txt sp (ymBlock txt sp 31) 31) 32 0 0 0 ⟨[r0],[],0⟩=_
  obtain⟨V,hV⟩: ∃V,ymValue txt sp (ymBlock txt sp 31) 31=V:=⟨_,rfl⟩
  have V0: ∀st kf kt,st.lines= [r0]→st.total<4095→V 0 kf kt st= .ok st.nodes.length ⟨st.lines,st.nodes++ [⟨1,r0.ind,0,1,kf,kt,r0.rf,r0.rt,[]⟩],st.total+1⟩:=by
   intro st kf kt hl ht
   rw[←hV]
   have:=value_one (s:=txt) (sp:=sp) (B:=ymBlock txt sp 31) (lv:=31) (k:=0) (kf:=kf) (kt:=kt) (st:=st) (.inl rfl) (by rw[hl,l0];exact R0) (by omega) ht
   rw[hl,l0] at this
   rw[hl]
   exact this
  have V1: ∀st kf kt,st.lines=r0::(bs++ [r1])→st.total<4095→V (k+1) kf kt st= .ok st.nodes.length ⟨st.lines,st.nodes++ [⟨1,r1.ind,k+1,k+2,kf,kt,r1.rf,r1.rt,[]⟩],st.total+1⟩:=by
   intro st kf kt hl ht
   rw[←hV]
   have:=value_one (s:=txt) (sp:=sp) (B:=ymBlock txt sp 31) (lv:=31) (k:=k+1) (kf:=kf) (kt:=kt) (st:=st) (.inr rfl) (by rw[hl,l1];exact R1) (by omega) ht
   rw[hl,l1] at this
   rw[hl]
   exact this
  rw[hV]
  clear hV
  unfold ymBlockS
  simp only[l0,k0,i0]
  rw[if_neg (by decide)]
  unfold addM
  rw[if_neg (by decide),if_neg (by show ¬4096≤0;decide)]
  simp only[if_true,List.nil_append,List.length_nil,Nat.sub_zero,decide_true]
  rw[hspl]
  unfold ymLoop
  simp only[l0,k0,i0]
  rw[if_pos (by refine⟨by omega,?_⟩;simp)]
  have O1:ymOne txt sp V true 0 0 [] 0 ⟨[r0],[⟨3,0,0,0,0,0,0,0,[]⟩],0+1⟩= .ok (k+1) ⟨r0::(bs++ [r1]),[⟨3,0,0,1,0,0,0,0,[1]⟩,⟨1,0,0,1,r0.kf,r0.kt,r0.rf,r0.rt,[]⟩],2⟩ [a]:=by
   unfold ymOne oneM
   simp only[l0,K0,if_true]
   rw[if_neg (by simp),if_neg (by simp),V0 _ _ _ rfl (by show (0+1:Nat)<4095;decide)]
   simp only[i0,List.length_singleton,List.cons_append,List.nil_append]
   have e1:toOf [⟨3,0,0,0,0,0,0,0,[]⟩,⟨1,0,0,1,r0.kf,r0.kt,r0.rf,r0.rt,[]⟩] 1=1:=rfl
   rw[e1,N1]
   simp only[l1,i1]
   rw[if_neg (by omega)]
   rfl
  rw[O1]
  simp only[]
  unfold ymLoop
  simp only[l1,k1,i1]
  rw[if_pos (by refine⟨by omega,?_⟩;simp)]
  by_cases hab:a=b
  ·rw[if_pos hab]
   have O2:ymOne txt sp V true 0 0 [a] (k+1) ⟨r0::(bs++ [r1]),[⟨3,0,0,1,0,0,0,0,[1]⟩,⟨1,0,0,1,r0.kf,r0.kt,r0.rf,r0.rt,[]⟩],2⟩= .bad r1.kf 7:=by
    unfold ymOne oneM
    simp only[l1,K1,if_true]
    rw[if_neg (by simp),if_pos (by rw[hab];exact List.mem_singleton_self _)]
   rw[O2]
  ·rw[if_neg hab]
   have O2:ymOne txt sp V true 0 0 [a] (k+1) ⟨r0::(bs++ [r1]),[⟨3,0,0,1,0,0,0,0,[1]⟩,⟨1,0,0,1,r0.kf,r0.kt,r0.rf,r0.rt,[]⟩],2⟩= .ok (k+2) ⟨r0::(bs++ [r1]),[⟨3,0,0,k+2,0,0,0,0,[1,2]⟩,⟨1,0,0,1,r0.kf,r0.kt,r0.rf,r0.rt,[]⟩,⟨1,0,k+1,k+2,r1.kf,r1.kt,r1.rf,r1.rt,[]⟩],3⟩ [b,a]:=by
    unfold ymOne oneM
    simp only[l1,K1,if_true]
    rw[if_neg (by simp),if_neg (by rw[List.mem_singleton];exact fun e=>hab e.symm),V1 _ _ _ rfl (by show (2:Nat)<4095;decide)]
    simp only[i1,List.length_cons,List.length_nil,List.cons_append,List.nil_append]
    have e1:toOf [⟨3,0,0,1,0,0,0,0,[1]⟩,⟨1,0,0,1,r0.kf,r0.kt,r0.rf,r0.rt,[]⟩,⟨1,0,k+1,k+2,r1.kf,r1.kt,r1.rf,r1.rt,[]⟩] (0+1+1)=k+2:=rfl
    rw[e1,N2]
    simp only[]
    rw[if_neg (by omega)]
    rfl
   rw[O2]
   simp only[]
   cases k with
   | zero=>rfl
   | succ k=>
    unfold ymLoop
    rw[if_neg (by omega)]
 rw[hB]
 by_cases hab:a=b
 ·rw[if_pos hab,if_pos hab]
 ·rw[if_neg hab,if_neg hab]
  simp only[]
  have e1:toOf [⟨3,0,0,k+2,0,0,0,0,[1,2]⟩,⟨1,0,0,1,r0.kf,r0.kt,r0.rf,r0.rt,[]⟩,⟨1,0,k+1,k+2,r1.kf,r1.kt,r1.rf,r1.rt,[]⟩] 0=k+2:=rfl
  rw[e1,N2]
  simp only[]
  rw[if_neg (by omega)]
theorem bytesI_mid (p t q:Stp):bytesI (p++t++q) (p.length:Int) ((p.length+t.length:Nat):Int)=t:=by
 unfold bytesI
 rw[if_neg (by simp only[List.length_append];omega)]
 exact slI_mid p t q
theorem doubles (a b X Y front txt:Stp) (hva:validD a=true) (hvb:validD b=true) (hX:(keyY a).1=X) (hY:(keyY b).1=Y) (k:Nat) (hf:front=X++ [58,32,49]++List.replicate (k+1) 10) (ht:txt=front++(Y++ [58,32,50])) (hl:txt.length≤65536) (hk4:k≤4):
  if a=b then parseYm txt=(⟨[],[]⟩,(front.length:Int),7) else ∃d,parseYm txt=(d,(txt.length:Int),0)∧nodeYv txt d 32 0= .mk 6 [] [a,b] [.mk 3 [49] [] [], .mk 3 [50] [] []]∧(DocB txt d∧ ∀l∈d.lines,l.ind≤1099511627776)∧TKY d.nodes 32 0 3:=by
 have hKX:=key_ky a hva
 have hKY:=key_ky b hvb
 rw[hX] at hKX
 rw[hY] at hKY
 have kX:=(key_back a hva).2
 have kY:=(key_back b hvb).2
 rw[hX] at kX
 rw[hY] at kY
 have cA:(X++ [58,32,49]:Stp).contains 10=false:=(hKX.cm.app (CmT.lit (by decide))).no10
 have cB:(Y++ [58,32,50]:Stp).contains 10=false:=(hKY.cm.app (CmT.lit (by decide))).no10
 have L0:=line_entry 0 X [49] hKX (one_tx 49 (.inl rfl))
 have L1:=line_entry 0 Y [50] hKY (one_tx 50 (.inr rfl))
 simp only[List.replicate_zero,List.nil_append,Nat.zero_add,List.length_singleton] at L0 L1
 have n0:(X++58::32:: [49]:Stp).length=X.length+2+1:=by simp
 have n1:(Y++58::32:: [50]:Stp).length=Y.length+2+1:=by simp
 have hfl:front.length=X.length+4+k:=by rw[hf];simp;omega
 have htl:txt.length=front.length+(Y.length+3):=by rw[ht];simp
 have t0:txt= []++(X++58::32:: [49])++(List.replicate (k+1) 10++(Y++ [58,32,50])):=by rw[ht,hf];simp
 have p0: ∃r',lineL txt ((0:Nat):Int) ((0+(X.length+2+1):Nat):Int)=(r',((0+(X.length+2+1):Nat):Int),0)∧r'.kind=4∧r'.ind=0∧r'.kf=0∧r'.kt=X.length∧r'.rf=((X.length+2:Nat):Int)∧r'.rt=((X.length+2+1:Nat):Int):=by
  have:=lineL_put (s:=txt) (t:=X++58::32:: [49]) (a:=0) (by rw[t0,List.nil_append,List.drop_zero,List.take_left]) (by omega) (by rw[n0];exact L0) rfl
  obtain⟨r',q1,q2,q3,q4,q5,q6,q7⟩:=this
  rw[n0] at q1
  refine⟨r',q1,q2,q3,?_,?_,?_,?_⟩<;>first | (rw[q4];rfl) | (rw[q5];simp) | (rw[q6];simp) | (rw[q7];simp)
 have p1: ∃r',lineL txt ((front.length:Nat):Int) ((front.length+(Y.length+2+1):Nat):Int)=(r',((front.length+(Y.length+2+1):Nat):Int),0)∧r'.kind=4∧r'.ind=0∧r'.kf=front.length∧r'.kt=((front.length+Y.length:Nat):Int)∧r'.rf=((front.length+Y.length+2:Nat):Int)∧r'.rt=((front.length+Y.length+2+1:Nat):Int):=by
  have:=lineL_put (s:=txt) (t:=Y++58::32:: [50]) (a:=front.length) (by rw[ht,List.drop_left];exact List.take_length) (by omega) (by rw[n1];exact L1) rfl
  obtain⟨r',q1,q2,q3,q4,q5,q6,q7⟩:=this
  rw[n1] at q1
  simp only[] at q4 q5 q6 q7
  refine⟨r',q1,q2,q3,?_,?_,?_,?_⟩
  ·rw[q4];simp
  ·rw[q5];push_cast;rfl
  ·rw[q6];push_cast;omega
  ·rw[q7];push_cast;omega
 obtain⟨r0,h0,k0,i0,kf0,kt0,rf0,rt0⟩:=p0
 obtain⟨r1,h1,k1,i1,kf1,kt1,rf1,rt1⟩:=p1
 have bX: ∀f:Stp→Int→Int→Stp,(∀p t q,f (p++t++q) (p.length:Int) ((p.length+t.length:Nat):Int)=t)→f txt r0.kf r0.kt=X∧f txt r0.rf r0.rt= [49]∧f txt r1.kf r1.kt=Y∧f txt r1.rf r1.rt= [50]:=by
  intro f hf'
  refine⟨?_,?_,?_,?_⟩
  ·have:=hf' [] X ([58,32,49]++List.replicate (k+1) 10++(Y++ [58,32,50]))
   rw[kf0,kt0]
   rw[show ([]++X++([58,32,49]++List.replicate (k+1) 10++(Y++ [58,32,50])):Stp)=txt by rw[ht,hf];simp] at this
   simpa using this
  ·have:=hf' (X++ [58,32]) [49] (List.replicate (k+1) 10++(Y++ [58,32,50]))
   rw[rf0,rt0]
   rw[show (X++ [58,32]++ [49]++(List.replicate (k+1) 10++(Y++ [58,32,50])):Stp)=txt by rw[ht,hf];simp] at this
   simpa using this
  ·have:=hf' front Y [58,32,50]
   rw[kf1,kt1]
   rw[show (front++Y++ [58,32,50]:Stp)=txt by rw[ht];simp] at this
   exact this
  ·have:=hf' (front++Y++ [58,32]) [50] []
   rw[rf1,rt1]
   rw[show (front++Y++ [58,32]++ [50]++ []:Stp)=txt by rw[ht];simp] at this
   simpa [Nat.add_assoc] using this
 obtain⟨s1,s2,s3,s4⟩:=bX slI slI_mid
 obtain⟨u1,u2,u3,u4⟩:=bX bytesI bytesI_mid
 obtain⟨bl,b1,b2,b3⟩:=feeds_spans (Y++ [58,32,50]) cB k (X.length+4)
 have hsp:spY txt=(0,X.length+3)::(bl++ [(front.length,front.length+(Y.length+2+1))]):=by
  unfold spY
  have:txt=(X++ [58,32,49])++10::(List.replicate k 10++(Y++ [58,32,50])):=by rw[ht,hf,List.replicate_succ];simp
  rw[this,linesL_run _ _ 0 0 cA,cutSp_cons _ (linesL_ne' _ _ _)]
  have e:0+(X++ [58,32,49]:Stp).length+1=X.length+4:=by simp
  rw[e,b3,hfl]
  simp
 obtain⟨bs,⟨c1,c1i⟩,c2⟩:=two_members txt (X.length+3) front.length (front.length+(Y.length+2+1)) k bl b1 (fun y hy=>by have:=b2 y hy;omega) a b
  (by have:=h0;rw[Nat.zero_add] at this;exact this) k0 i0 (by rw[s1];exact kX) s2 h1 k1 i1 (by rw[s3];exact kY) s4
 have hP:parseYm txt=ymWhole txt (spY txt):=by unfold parseYm;rw[if_neg (by omega)]
 rw[hsp,c2] at hP
 rw[hP]
 by_cases hab:a=b
 ·rw[if_pos hab,if_pos hab,kf1]
 ·rw[if_neg hab,if_neg hab]
  have hin: ∀l∈r0::(bs++ [r1]),l.ind=0:=by
   intro l hl
   rcases List.mem_cons.1 hl with e | hl
   ·rw[e];exact i0
   ·rcases List.mem_append.1 hl with hl | hl
    ·exact c1i l hl
    ·rw[List.mem_singleton.1 hl];exact i1
  refine⟨_,rfl,?_,⟨⟨hl,?_,?_,?_,fun l hl=>by rw[hin l hl];exact Int.le_refl _⟩,fun l hl=>by rw[hin l hl];decide⟩,⟨_,rfl,rfl,2,⟨_,rfl,rfl⟩,rfl,3,⟨_,rfl,rfl⟩,rfl⟩⟩
  rotate_left
  ·simp only[List.length_cons,List.length_append,c1,List.length_nil];omega
  ·simp
  ·intro x hx
   simp only[List.mem_cons,List.not_mem_nil,or_false] at hx
   rcases hx with e | e | e<;>rw[e]<;>simp only[List.length_cons,List.length_nil]<;>omega
  unfold nodeYv
  simp only[List.getElem?_cons_zero]
  rw[if_neg (by decide),if_neg (by decide)]
  simp only[if_true,List.map_cons,List.map_nil]
  unfold keyYv nodeYv
  simp only[List.getElem?_cons_zero,List.getElem?_cons_succ,if_true,u1,u2,u3,u4,kX,kY,read_one 49 (.inl rfl),read_one 50 (.inr rfl)]
theorem safe_six: ∀(p:Bool) (n:Fin 256),(safeGo p (qB (UInt8.ofNat n.val))).length≤6:=by decide+kernel
theorem safe_len6: ∀(s:Stp) (p:Bool),(safeGo p (qBs s)).length≤6*s.length
 | [],p=>Nat.zero_le _
 | c::r,p=>by
  have h1:qBs (c::r)=qB c++qBs r:=by unfold qBs;rw[List.flatMap_cons]
  have h2:=safe_six p ⟨c.toNat,c.toNat_lt⟩
  rw[show UInt8.ofNat (⟨c.toNat,c.toNat_lt⟩:Fin 256).val=c from UInt8.ofNat_toNat] at h2
  have h3:=safe_len6 r (lastB p (qB c))
  rw[h1,safe_app,List.length_append,List.length_cons]
  omega
theorem qS_len6 (s:Stp):(qS s).length≤6*s.length+2:=by
 have:=safe_len6 s false
 unfold qS
 rw[List.length_cons,List.length_append,List.length_singleton]
 omega
theorem keyY_len6 (s:Stp):(keyY s).1.length≤6*s.length+2:=by
 unfold keyY
 split
 ·rename_i hv
  split
  ·simp only[];omega
  ·unfold quotedY
   split
   ·have:=sqw_len2 s;omega
   ·show (safeL (quoteL s).1).length≤_
    rw[safe_eq,safe_quote s hv]
    exact qS_len6 s
 ·simp
theorem key_err (s:Stp):((keyY s).2=0↔validD s=true):=by
 constructor
 ·intro h
  by_cases hv:validD s=true
  ·exact hv
  ·rw[key_no hv] at h;cases h
 ·exact fun hv=>(key_back s hv).1
end Go.Proofs.YtlibkhbachmcgaaGreatDoor
namespace Go.Proofs.YtlibkhbachmcgaaGreatDoor
set_option linter.unusedSimpArgs false
set_option linter.unusedVariables false
open Go.RowKit
open Go.Lib hiding intOf
theorem andL3 (k:Int): ∃j:Nat,j≤3∧bits .and .i64 k 3=j:=by
 have h:(BitVec.ofInt 64 k&&& BitVec.ofInt 64 3).toNat≤3:=by
  rw[BitVec.toNat_and]
  exact Nat.le_trans Nat.and_le_right (by decide)
 exact⟨(BitVec.ofInt 64 k&&& BitVec.ofInt 64 3).toNat,h,(show IntKind.i64.wrap ((BitVec.ofInt 64 k&&& BitVec.ofInt 64 3).toNat:Int)=_ from IntWalk.i64_in _ (by omega))⟩
theorem feeds4 (n:Nat) (h:n≤4):(⟨#[10,10,10,10]⟩:ByteArray).extract 0 n=bs (List.replicate n 10):=by
 have:n=0∨n=1∨n=2∨n=3∨n=4:=by omega
 rcases this with rfl | rfl | rfl | rfl | rfl<;>decide+kernel
theorem str_eqD (a b:Stp):((bs a).toList==(bs b).toList)=decide (a=b):=by
 rw[Lib.toList_data,Lib.toList_data,bs_data,bs_data]
 by_cases h:a=b
 ·rw[decide_eq_true h,h];simp
 ·rw[decide_eq_false h];simpa using h
theorem VD.two_at {n:Nat}{k:Int}{t:Stp}{a b:Stp}{x y:VT}{kv iv:Value}{w:World} (h:VD w n (.mk k t [a,b] [x,y]) kv iv):
  ∃g o gi oi ck ci,kv= .slice (some ⟨g,o,none⟩) 2 ck∧iv= .slice (some ⟨gi,oi,none⟩) 2 ci∧w.cell? ⟨g,o,none⟩=some (.string (bs a))∧w.cell? ⟨g,o+1,none⟩=some (.string (bs b))∧w.cell? ⟨gi,oi+1,none⟩=some (.string (bs x.text))∧w.cell? ⟨gi,oi+4+1,none⟩=some (.string (bs y.text)):=by
 obtain⟨m,rfl,⟨pk,ck,hk,_,hl⟩,p,ci,hi,_,hit⟩:=h.parts
 obtain⟨g,o,e1,c0⟩:=hl.at_ (j:=0) rfl
 obtain⟨g',o',e1',c1⟩:=hl.at_ (j:=1) rfl
 rw[e1] at e1'
 injection e1' with e1'
 injection e1' with q1 q2
 subst q1 q2
 obtain⟨gi,oi,_,_,e2,_,_,d0,_⟩:=hit 0 x rfl
 obtain⟨gi',oi',_,_,e2',_,_,d1,_⟩:=hit 1 y rfl
 rw[e2] at e2'
 injection e2' with e2'
 injection e2' with q1 q2
 subst q1 q2
 refine⟨g,o,gi,oi,ck,ci,?_,?_,c0,c1,?_,?_⟩
 ·rw[hk,e1];rfl
 ·rw[hi,e2];rfl
 ·have h0:oi+0*4+1=oi+1:=by omega
  rw[h0] at d0
  exact d0
 ·have h0:oi+1*4+1=oi+4+1:=by omega
  rw[h0] at d1
  exact d1
theorem yamlDoubles_any (sa sb:ByteArray) (n:Int) (w:World) (hV:AVar w) (ha:sa.size≤1048576) (hb:sb.size≤1048576):
  Calls Tryz.prog 8 #[.string sa, .string sb, .int .i64 n] w fun e w'=>e= .returned (.bool true)∧Below w.heap.size w w':=by
 obtain⟨a,rfl⟩: ∃l,sa=bs l:=⟨sa.data.toList,(bs_of sa).symm⟩
 obtain⟨b,rfl⟩: ∃l,sb=bs l:=⟨sb.data.toList,(bs_of sb).symm⟩
 have sla:=bs_size a
 have slb:=bs_size b
 rw[sla] at ha
 rw[slb] at hb
 have HV:=hid hV
 have C0:=hid (small12_any w hV)
 have CKa:Hid (∀w',Below w.heap.size w w'→Calls Tryz.prog 23 #[.string (bs a)] w' fun e w2=>e=QuotedE (keyY a)∧Below w'.heap.size w' w2):=hid (fun w' h=>ywritekey_any a w' (by omega) (HV.out.keep h).1)
 have CKb:Hid (∀w',Below w.heap.size w w'→Calls Tryz.prog 23 #[.string (bs b)] w' fun e w2=>e=QuotedE (keyY b)∧Below w'.heap.size w' w2):=hid (fun w' h=>ywritekey_any b w' (by omega) (HV.out.keep h).1)
 have hka:=keyY_len6 a
 have hkb:=keyY_len6 b
 have hea:=key_err a
 have heb:=key_err b
 obtain⟨⟨X,ea⟩,hX⟩: ∃Q,keyY a=Q:=⟨_,rfl⟩
 obtain⟨⟨Y,eb⟩,hY⟩: ∃Q,keyY b=Q:=⟨_,rfl⟩
 rw[hX] at CKa hka hea
 rw[hY] at CKb hkb heb
 unfold QuotedE at CKa CKb
 simp only[] at CKa CKb hka hkb hea heb
 have HXY:=hid (And.intro hX hY)
 have HE:=hid (And.intro hea heb)
 clear hV hX hY hea heb
 obtain⟨j,hj,hjn⟩:=andL3 n
 obtain⟨k1,hk1⟩: ∃k,j+1=k:=⟨_,rfl⟩
 have hk1z:(1:Int)+(j:Int)=(k1:Int):=by omega
 have hk14:k1≤4:=by omega
 have HK1:=hid hk1
 have g0:=feeds4 k1 hk14
 clear hk1
 obtain⟨B0,hB0⟩: ∃B,List.replicate k1 (10:UInt8)=B:=⟨_,rfl⟩
 obtain⟨B1,hB1⟩: ∃B,X++ [58,32,49]=B:=⟨_,rfl⟩
 obtain⟨F,hF⟩: ∃B,B1++B0=B:=⟨_,rfl⟩
 obtain⟨B3,hB3⟩: ∃B,F++Y=B:=⟨_,rfl⟩
 obtain⟨T,hT⟩: ∃B,B3++ [58,32,50]=B:=⟨_,rfl⟩
 rw[hB0] at g0
 have g1:bs X++⟨#[58,32,49]⟩=bs B1:=by rw[←hB1];exact bs_append X [58,32,49]
 have g2:bs B1++bs B0=bs F:=by rw[←hF,bs_append]
 have g3:bs F++bs Y=bs B3:=by rw[←hB3,bs_append]
 have g4:bs B3++⟨#[58,32,50]⟩=bs T:=by rw[←hT];exact bs_append B3 [58,32,50]
 have zX:=bs_size X
 have zY:=bs_size Y
 have z0:(bs B0).size=k1:=by rw[bs_size,←hB0,List.length_replicate]
 obtain⟨lF,hlF⟩: ∃m,F.length=m:=⟨_,rfl⟩
 have l1:B1.length=X.length+3:=by rw[←hB1];simp
 have lf:lF=X.length+3+k1:=by rw[←hlF,←hF,List.length_append,l1,←hB0,List.length_replicate]
 have l3:B3.length=lF+Y.length:=by rw[←hB3,List.length_append,hlF]
 have lt:T.length=lF+Y.length+3:=by rw[←hT,List.length_append,l3];rfl
 have zB1:(bs B1).size=X.length+3:=by rw[bs_size,l1]
 have zF:(bs F).size=lF:=by rw[bs_size,hlF]
 have zB3:(bs B3).size=lF+Y.length:=by rw[bs_size,l3]
 have hFL:=hid hlF
 have HD:Hid (Lib.validD a=true→Lib.validD b=true→T.length≤65536→if a=b then parseYm T=(⟨[],[]⟩,(lF:Int),7) else ∃d,parseYm T=(d,(T.length:Int),0)∧nodeYv T d 32 0= .mk 6 [] [a,b] [.mk 3 [49] [] [], .mk 3 [50] [] []]∧(DocB T d∧ ∀l∈d.lines,l.ind≤1099511627776)∧TKY d.nodes 32 0 3):=hid (fun va vb hl=>by
  have:=doubles a b X Y F T va vb (by rw[HXY.out.1]) (by rw[HXY.out.2]) j (by rw[HK1.out,←hF,←hB1,hB0]) (by rw[←hT,←hB3,List.append_assoc]) hl (by omega)
  rw[hlF] at this
  exact this)
 have HLT:=hid lt
 have hTl:a.length+b.length≤1024→T.length≤65536:=fun h=>by omega
 have HTL:=hid hTl
 have hlf2:lF≤8388608:=by omega
 have HLF:=hid lf
 have hx2:X.length≤8388608:=by omega
 have hy2:Y.length≤8388608:=by omega
 have CP:Hid (∀w',Below w.heap.size w w'→Calls Tryz.prog 11 #[.string (bs T)] w' (YPE T (parseYm T) w')):=hid (fun w' h=>yparse_any T w' (HV.out.keep h))
 clear hB0 hB1 hF hB3 hT hlF l1 lf l3 lt hTl hka hkb
 go_enter Tryz.func8,Tryz.ntmps8
 go_wp2_with fail
 refine C0.out.mono ?_
 rintro e w1 ⟨rfl,hb1⟩
 have HB1:=hid hb1
 clear hb1
 go_wp2_with fail
 refine(CKa.out _ HB1.out).mono ?_
 rintro e w2 ⟨rfl,hb2⟩
 have HB2:=hid (below_of_new HB1.out hb2)
 clear hb2
 go_wp2_with fail
 refine(CKb.out _ HB2.out).mono ?_
 rintro e w3 ⟨rfl,hb3⟩
 have HB3:=hid (below_of_new HB2.out hb3)
 clear hb3
 by_cases hlen:1024<a.length+b.length
 ·have d1:decide ((1024:Int)<(a.length:Int)+(b.length:Int))=true:=decide_eq_true (by omega)
  go_wp2_with fail
  go_ret
  exact⟨rfl,by first | exact HB3.out | exact HB3.out.drew⟩
 have d1:decide ((1024:Int)<(a.length:Int)+(b.length:Int))=false:=decide_eq_false (by omega)
 by_cases he1:ea=0
 rotate_left
 ·have d2:(ea !=0)=true:=by simpa using he1
  clear he1
  go_wp2_with fail
  go_ret
  exact⟨rfl,by first | exact HB3.out | exact HB3.out.drew⟩
 have va:=HE.out.1.1 he1
 subst he1
 by_cases he2:eb=0
 rotate_left
 ·have d2:(eb !=0)=true:=by simpa using he2
  clear he2 va
  go_wp2_with fail
  go_ret
  exact⟨rfl,by first | exact HB3.out | exact HB3.out.drew⟩
 have vb:=HE.out.2.1 he2
 subst he2
 have hTl:=HTL.out (by omega)
 have HD1:=hid (HD.out va vb hTl)
 have hTs:=bs_size T
 clear va vb HD
 go_wp2_with fail
 refine(CP.out _ (by first | exact HB3.out | exact HB3.out.drew)).mono ?_
 rintro e w4 hE
 have dab:=str_eqD a b
 by_cases hab:a=b
 ·have hD1:=HD1.out
  rw[if_pos hab] at hD1
  rw[hD1] at hE
  obtain⟨tx,lv,nv,rfl,htx,hd4,hb4⟩:=hE
  simp only[] at htx
  obtain⟨⟨pl,cl,hpl⟩,pn,cn,hpn⟩:=hd4.forms
  have hpl:lv= .slice pl 0 cl:=hpl
  have hpn:nv= .slice pn 0 cn:=hpn
  subst hpl hpn
  rw[if_neg (by decide)] at htx
  subst htx
  have HB4:=hid (below_of_new (show Below w.heap.size w _ from by first | exact HB3.out | exact HB3.out.drew) hb4)
  rw[decide_eq_true hab] at dab
  obtain⟨D,hDe⟩: ∃K,w4.heap.size=K:=⟨_,rfl⟩
  have b5:=below_alloc1 w4 (.cells #[.string ⟨#[]⟩, .slice pl 0 cl, .slice pn 0 cn] 26)
  have x5:=heap_alloc_new w4 (.cells #[.string ⟨#[]⟩, .slice pl 0 cl, .slice pn 0 cn] 26)
  obtain⟨w5,hw5⟩: ∃W,w4.alloc (.cells #[.string ⟨#[]⟩, .slice pl 0 cl, .slice pn 0 cn] 26)=W:=⟨_,rfl⟩
  rw[hw5] at b5 x5
  rw[hDe] at x5
  have HB5:=hid (below_of_new HB4.out b5)
  obtain⟨c0,c1,c2,_⟩:=box3f x5
  clear hab hD1 hd4 hb4 b5 x5 CP CKa CKb HD1
  go_wp2_with fail
  clear hw5 hDe
  go_ret
  exact⟨rfl,by first | exact HB5.out | exact HB5.out.drew⟩
 ·have hD1:=HD1.out
  rw[if_neg hab] at hD1
  obtain⟨d,hP,hN,⟨hDB,hDI⟩,hm⟩:=hD1
  rw[hP] at hE
  obtain⟨tx,lv,nv,rfl,htx,hd4,hb4⟩:=hE
  rw[if_pos rfl] at htx
  subst htx
  obtain⟨⟨pl,cl,hpl⟩,pn,cn,hpn⟩:=hd4.forms
  obtain⟨nl,hnl⟩: ∃n,d.lines.length=n:=⟨_,rfl⟩
  obtain⟨nn,hnn⟩: ∃n,d.nodes.length=n:=⟨_,rfl⟩
  simp only[] at hpl hpn
  rw[hnl] at hpl
  rw[hnn] at hpn
  subst hpl hpn
  have HD4:=hid hd4
  have HB4:=hid (below_of_new (show Below w.heap.size w _ from by first | exact HB3.out | exact HB3.out.drew) hb4)
  rw[decide_eq_false hab] at dab
  simp only[]
  obtain⟨D,hDe⟩: ∃K,w4.heap.size=K:=⟨_,rfl⟩
  have b5:=below_alloc1 w4 (.cells #[.string (bs T), .slice pl nl cl, .slice pn nn cn] 26)
  have x5:=heap_alloc_new w4 (.cells #[.string (bs T), .slice pl nl cl, .slice pn nn cn] 26)
  obtain⟨w5,hw5⟩: ∃W,w4.alloc (.cells #[.string (bs T), .slice pl nl cl, .slice pn nn cn] 26)=W:=⟨_,rfl⟩
  rw[hw5] at b5 x5
  rw[hDe] at x5
  have HB5:=hid (below_of_new HB4.out b5)
  have HD5:=hid (HD4.out.keep b5)
  have CN:Hid (∀w',Below w5.heap.size w5 w'→Calls Tryz.prog 14 #[.agg #[.string (bs T), .slice pl nl cl, .slice pn nn cn], .int .i64 0] w' (NdE (.mk 6 [] [a,b] [.mk 3 [49] [] [], .mk 3 [50] [] []]) true w')):=hid (fun w' h=>by
   have:=yNodeD_any T d hDB hDI _ _ _ 0 3 w' hm (HD5.out.keep h) ((HV.out.keep HB5.out).keep h)
   rw[hN] at this
   exact this)
  obtain⟨c0,c1,c2,_⟩:=box3f x5
  clear hab hd4 hb4 b5 x5 CP CKa CKb HD1 hP hDB hDI hm hN hnl hnn
  go_wp2_with fail
  refine(CN.out _ (by first | exact Below.refl _ _ | exact(Below.refl _ _).drew)).mono ?_
  rintro e w6 ⟨⟨kv,iv,rfl,hv6⟩,hb6⟩
  obtain⟨g,o,gi,oi,ck,ci,rfl,rfl,k0,k1',i0,i1⟩:=hv6.toVD.two_at
  have HB56:Hid (Below w5.heap.size w5 w6):=hid (by first | exact hb6 | exact below_of_new (Below.refl _ _).drew hb6)
  unfold vv
  simp only[VT.kind,VT.text] at i0 i1 ⊢
  clear hw5 hDe c0 c1 c2 CN
  obtain⟨X6,hXe⟩: ∃K,w6.heap.size=K:=⟨_,rfl⟩
  have b7:=below_alloc1 w6 (.cells #[.int .i64 6, .string (bs []), .slice (some ⟨g,o,none⟩) 2 ck, .slice (some ⟨gi,oi,none⟩) 2 ci] 36)
  have x7:=heap_alloc_new w6 (.cells #[.int .i64 6, .string (bs []), .slice (some ⟨g,o,none⟩) 2 ck, .slice (some ⟨gi,oi,none⟩) 2 ci] 36)
  obtain⟨w7,hw7⟩: ∃W,w6.alloc (.cells #[.int .i64 6, .string (bs []), .slice (some ⟨g,o,none⟩) 2 ck, .slice (some ⟨gi,oi,none⟩) 2 ci] 36)=W:=⟨_,rfl⟩
  rw[hw7] at b7 x7
  rw[hXe] at x7
  have HB7:=hid (below_of_new HB5.out (below_of_new HB56.out b7))
  have k0:=cell_keepT k0 b7
  have k1':=cell_keepT k1' b7
  have i0:=cell_keepT i0 b7
  have i1:=cell_keepT i1 b7
  obtain⟨y0,y1,y2,y3,_⟩:=box4 x7
  have e1:((bs a).toList==(bs a).toList)=true:=by simp
  have e2:((bs b).toList==(bs b).toList)=true:=by simp
  have e3:((bs [49]).toList== [49])=true:=by rw[Lib.toList_data,bs_data];rfl
  have e4:((bs [50]).toList== [50])=true:=by rw[Lib.toList_data,bs_data];rfl
  clear hv6 hb6 b7 x7
  go_wp2_with fail
  clear hw7 hXe
  go_ret
  exact⟨rfl,by first | exact HB7.out | exact HB7.out.drew⟩
end Go.Proofs.YtlibkhbachmcgaaGreatDoor
namespace Go.Proofs.YtlibkhbachmcgaaGreatDoor
open Go.Shelf Go.RowKit
noncomputable def laidWorld7 (os:Os):World:=
 let w0:=World.holding Tryz.prog os ⟨#[], #[],[]⟩
 let put (h:Array Obj) (g:Nat) (cs:Array Value):Array Obj:=h.modify g fun
  | .cells _ t frozen=> .cells cs t frozen
  | o=>o
 let h1:=put w0.heap 6 #[.int .u8 0, .int .u8 1, .int .u8 28, .int .u8 2, .int .u8 29, .int .u8 14, .int .u8 24, .int .u8 3, .int .u8 30, .int .u8 22, .int .u8 20, .int .u8 15, .int .u8 25, .int .u8 17, .int .u8 4, .int .u8 8, .int .u8 31, .int .u8 27, .int .u8 13, .int .u8 23, .int .u8 21, .int .u8 19, .int .u8 16, .int .u8 7, .int .u8 26, .int .u8 12, .int .u8 18, .int .u8 6, .int .u8 11, .int .u8 5, .int .u8 10, .int .u8 9]
 let h2:=put h1 7 #[.int .u8 0, .int .u8 1, .int .u8 56, .int .u8 2, .int .u8 57, .int .u8 49, .int .u8 28, .int .u8 3, .int .u8 61, .int .u8 58, .int .u8 42, .int .u8 50, .int .u8 38, .int .u8 29, .int .u8 17, .int .u8 4, .int .u8 62, .int .u8 47, .int .u8 59, .int .u8 36, .int .u8 45, .int .u8 43, .int .u8 51, .int .u8 22, .int .u8 53, .int .u8 39, .int .u8 33, .int .u8 30, .int .u8 24, .int .u8 18, .int .u8 12, .int .u8 5, .int .u8 63, .int .u8 55, .int .u8 48, .int .u8 27, .int .u8 60, .int .u8 41, .int .u8 37, .int .u8 16, .int .u8 46, .int .u8 35, .int .u8 44, .int .u8 21, .int .u8 52, .int .u8 32, .int .u8 23, .int .u8 11, .int .u8 54, .int .u8 26, .int .u8 40, .int .u8 15, .int .u8 34, .int .u8 20, .int .u8 31, .int .u8 10, .int .u8 25, .int .u8 14, .int .u8 19, .int .u8 9, .int .u8 13, .int .u8 8, .int .u8 7, .int .u8 6]
 let h3:=put h2 3 #[.int .u64 1, .int .u64 10, .int .u64 100, .int .u64 1000, .int .u64 10000, .int .u64 100000, .int .u64 1000000, .int .u64 10000000, .int .u64 100000000, .int .u64 1000000000, .int .u64 10000000000, .int .u64 100000000000, .int .u64 1000000000000, .int .u64 10000000000000, .int .u64 100000000000000, .int .u64 1000000000000000, .int .u64 10000000000000000, .int .u64 100000000000000000, .int .u64 1000000000000000000, .int .u64 10000000000000000000]
 let h4:=put h3 1 #[.int .u8 128, .int .u8 191, .int .u8 160, .int .u8 191, .int .u8 128, .int .u8 159, .int .u8 144, .int .u8 191, .int .u8 128, .int .u8 143, .int .u8 0, .int .u8 0, .int .u8 0, .int .u8 0, .int .u8 0, .int .u8 0, .int .u8 0, .int .u8 0, .int .u8 0, .int .u8 0, .int .u8 0, .int .u8 0, .int .u8 0, .int .u8 0, .int .u8 0, .int .u8 0, .int .u8 0, .int .u8 0, .int .u8 0, .int .u8 0, .int .u8 0, .int .u8 0]
 let n5:=h4.size
 let a5:=h4.push (.cells #[.string ⟨#[118,97,108,117,101,32,111,117,116,32,111,102,32,114,97,110,103,101]⟩] 268 (0,0))
 let h5:=put a5 5 #[.iface 266 (.pointer (some ⟨n5,0,none⟩))]
 let n6:=h5.size
 let a6:=h5.push (.cells #[.string ⟨#[105,110,118,97,108,105,100,32,115,121,110,116,97,120]⟩] 268 (0,0))
 let h6:=put a6 4 #[.iface 266 (.pointer (some ⟨n6,0,none⟩))]
 let h7:=put h6 0 (Lib.firstTab.map fun z=>Value.int .u8 z).toArray
 { w0 with heap:=h7 }
def laidL7:List (String×DataW Unit):= [("math/bits.deBruijn32tab",Rows.laid_math_bits_deBruijn32tab),("math/bits.deBruijn64tab",Rows.laid_math_bits_deBruijn64tab),("internal/strconv.uint64pow10",Rows.laid_internal_strconv_uint64pow10),("unicode/utf8.acceptRanges",Rows.laid_unicode_utf8_acceptRanges),("strconv.ErrRange",Rows.laid_strconv_ErrRange),("strconv.ErrSyntax",Rows.laid_strconv_ErrSyntax),("unicode/utf8.first",Rows.laid_unicode_utf8_first)]
theorem laid_met7 (os:Os) (args:Array Value):laidMet Tryz.prog laidL7 ((laidWorld7 os).forCall (fun _ _=>0) ⟨#[],args,[]⟩).memory:=
 (LaidIn.of_run (l:=laidL7) (List.range 64) 8 (by kernel_rfl) (by kernel_rfl) (by kernel_rfl) (by kernel_rfl)).met
theorem ptab_of7 {W:World} (hL:laidMet Tryz.prog laidL7 W):PTab W:=by
 obtain⟨g,t,cs,fuel,p,hg,hty,hvar,hd⟩:=Lib.laidMet.reads hL (.tail _ (.tail _ (.head _)))
 obtain rfl:=Option.some.inj ((show Tryz.prog.globalNamed "internal/strconv.uint64pow10" =some 3 by kernel_rfl).symm.trans hg)
 obtain rfl:=Option.some.inj ((show (Tryz.prog.globals[3]?).map (·.type)=some 246 by kernel_rfl).symm.trans hty)
 rw[show (Rows.laid_internal_strconv_uint64pow10:DataW Unit)=Lib.tabData .u64 Lib.pow10Tab by kernel_rfl] at hd
 have h:=Lib.cells_of_tab Tryz.underlying246 Tryz.underlying196 (by kernel_rfl) (by kernel_rfl) hd
 show World.var? Tryz.prog W _=_
 rw[hvar,←h]
theorem iface_cells {H:Type}{enc:TypeId×Value→H}{P:Program}{w:World}{base:Nat}{sp:Nat→Bool}{held:Bool}{fuel:Nat}{t:TypeId}{ms:Array (String×TypeId)}{cs:List Value}{nm:String}{d:DataW H}{p:List MemPlace}
  (ht:P.underlying t=some (.interface ms)) (h:DataW.trod enc P w base sp held fuel t cs=some (.iface nm d,p)): ∃u v,cs= [.iface u v]:=by
 cases fuel with
 | zero=>simp[DataW.trod] at h
 | succ n=>
  unfold DataW.trod at h
  simp only[ht] at h
  rcases cs with _ | ⟨c,_ | ⟨c2,l⟩⟩
  ·simp at h
  ·cases c<;>simp at h
   exact⟨_,_,rfl⟩
  ·cases c<;>simp at h
theorem svar_of7 {W:World} (hL:laidMet Tryz.prog laidL7 W):SVar W:=by
 obtain⟨g,t,cs,fuel,p,hg,hty,hvar,hd⟩:=Lib.laidMet.reads hL (.tail _ (.tail _ (.tail _ (.tail _ (.tail _ (.head _))))))
 obtain rfl:=Option.some.inj ((show Tryz.prog.globalNamed "strconv.ErrSyntax" =some 4 by kernel_rfl).symm.trans hg)
 obtain rfl:=Option.some.inj ((show (Tryz.prog.globals[4]?).map (·.type)=some 109 by kernel_rfl).symm.trans hty)
 obtain⟨u,v,hcs⟩:=iface_cells Tryz.underlying109 hd
 refine⟨u,v,?_⟩
 rw[hvar,←hcs]
theorem dtab_of7 {W:World} (hL:laidMet Tryz.prog laidL7 W):DTab W:=by
 obtain⟨g,t,cs,fuel,p,hg,hty,hvar,hd⟩:=Lib.laidMet.reads hL (.tail _ (.head _))
 obtain rfl:=Option.some.inj ((show Tryz.prog.globalNamed "math/bits.deBruijn64tab" =some 7 by kernel_rfl).symm.trans hg)
 obtain rfl:=Option.some.inj ((show (Tryz.prog.globals[7]?).map (·.type)=some 270 by kernel_rfl).symm.trans hty)
 rw[show (Rows.laid_math_bits_deBruijn64tab:DataW Unit)=Lib.tabData .u8 (Lib.deBruijn64tab.map (fun n:Nat=>(n:Int))) by kernel_rfl] at hd
 have h:=Lib.cells_of_tab Tryz.underlying270 Tryz.underlying5 (by kernel_rfl) (by kernel_rfl) hd
 unfold DTab
 rw[World.var?_cell (P:=Tryz.prog) (show Tryz.prog.globalNamed "math/bits.deBruijn64tab" =some 7 by kernel_rfl) hvar 15,←Array.getElem?_toList,h]
 rfl
theorem tabs_of7 {W:World} (hL:laidMet Tryz.prog laidL7 W):Tabs W:=by
 have h1:=Lib.laidMet.reads hL (.tail _ (.tail _ (.tail _ (.head _))))
 have h2:=Lib.laidMet.reads hL (.tail _ (.tail _ (.tail _ (.tail _ (.tail _ (.tail _ (.head _)))))))
 rw[show Rows.laid_unicode_utf8_first=Lib.firstData from Pinned.utf8First_eq] at h2
 rw[show (Rows.laid_unicode_utf8_acceptRanges:DataW Unit)=Lib.acceptData by kernel_rfl] at h1
 exact utf8Tabs_of_readsT (U8Types.of196 Tryz.laysValid) ⟨by kernel_rfl,by kernel_rfl,by kernel_rfl,by kernel_rfl,by kernel_rfl,by kernel_rfl,by kernel_rfl⟩ h2 h1
theorem mvar_of {W:World} (h:W.ShapedOpen Tryz.prog):MVar W:=
 cell_of_shapedOpen_int (P:=Tryz.prog) (g:=2) (t:=3) (zero:= #[.int .i64 0]) h (of_decide_eq_true (by kernel_rfl)) (by kernel_rfl) rfl (by kernel_rfl) (by kernel_rfl) Tryz.underlying3
end Go.Proofs.YtlibkhbachmcgaaGreatDoor
namespace Go.Proofs.YtlibkhbachmcgaaGreatDoor
set_option linter.unusedSimpArgs false
set_option linter.unusedVariables false
set_option linter.constructorNameAsVariable false
open Go.RowKit Go.Joins Go.ChangeShapes Go.WideShapes
section
variable {H:Type}{enc:TypeId×Value→H}{w:World}{base:Nat}{sp:Nat→Bool}{held:Bool}
instance:Inhabited (VT×Value×Value):=⟨(.mk 0 [] [] [], .nilFunc, .nilFunc)⟩
theorem int_bd {e:Int} (h:(Lit.int .i64 e).wf=true): -9223372036854775808≤e∧e≤9223372036854775807:=by
 simp only[Lit.wf,Bool.and_eq_true,decide_eq_true_eq] at h
 have h1:IntKind.i64.min= -9223372036854775808:=by decide
 have h2:IntKind.i64.max=9223372036854775807:=by decide
 omega
end
end Go.Proofs.YtlibkhbachmcgaaGreatDoor
