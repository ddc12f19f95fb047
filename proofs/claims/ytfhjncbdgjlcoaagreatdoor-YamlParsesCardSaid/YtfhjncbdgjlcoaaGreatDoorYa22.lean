import Derived.Test.YtfhjncbdgjlcoaaGreatDoorYa21
set_option maxRecDepth 100000
set_option maxHeartbeats 20000000
set_option linter.unusedVariables false
set_option linter.unusedSimpArgs false
namespace Go.Proofs.YtfhjncbdgjlcoaaGreatDoor
section
open Go.RowKit
open Go.Lib hiding intOf
theorem Yw (l:List UInt8) (x y:Nat) (w:World) (hs:l.length<=1073741824) (hxy:x<=y) (hyl:y<=l.length) (T:List UInt8) (hTd:(l.drop x).take (y-x)=T) (R:aP×Int×Int)
  (hC1:Hid (T.contains 10=false)) (hC2:Hid (¬cX true T<T.length)) (hC3:Hid (¬aX T=T.length)) (hC4:Hid (¬(T.drop (aX T)).head?=some 35)) (hC5:Hid (¬(((T.drop (aX T)).head?=some 34\/(T.drop (aX T)).head?=some 39)/\cU (T.drop (aX T))=0))) (hR:(if T.contains 10 then(aW,0,1) else if cX true T<T.length then(aW,(x:Int)+cX true T,2) else kZ x y (aX T) (fQ (T.drop (aX T))):aP×Int×Int)=R):
  Calls Tryz.prog 36 #[bs l, .agg #[x,y]] w λe w'=>e=jV R/\Below w.heap.size w w':=by
 have xd:=trivial;exact qa
theorem Yx (l:List UInt8) (x y:Nat) (w:World) (hs:l.length<=1073741824) (hxy:x<=y) (hyl:y<=l.length) (T:List UInt8) (hTd:(l.drop x).take (y-x)=T) (R:aP×Int×Int)
  (hR:(if T.contains 10 then(aW,0,1) else if cX true T<T.length then(aW,(x:Int)+cX true T,2) else kZ x y (aX T) (fQ (T.drop (aX T))):aP×Int×Int)=R):
  Calls Tryz.prog 36 #[bs l, .agg #[x,y]] w λe w'=>e=jV R/\Below w.heap.size w w':=by
 by_cases a:T.contains 10=true
 ·exact Yr l x y w hs hxy hyl T hTd R a hR
 have a:T.contains 10=false:=E8
 by_cases h2:cX true T<T.length
 ·exact Ys l x y w hs hxy hyl T hTd R a h2 hR
 by_cases h3:aX T=T.length
 ·exact Yt l x y w hs hxy hyl T hTd R a h2 h3 hR
 by_cases h4:(T.drop (aX T)).head?=some 35
 ·exact Yu l x y w hs hxy hyl T hTd R a h2 h3 h4 hR
 by_cases h5:((T.drop (aX T)).head?=some 34\/(T.drop (aX T)).head?=some 39)/\cU (T.drop (aX T))=0
 ·exact Yv l x y w hs hxy hyl T hTd R a h2 h3 h4 h5 hR
 ·exact Yw l x y w hs hxy hyl T hTd R a h2 h3 h4 h5 hR
theorem Yy (l:List UInt8) (a b:Int) (w:World) (hs:l.length<=1073741824):
  Calls Tryz.prog 36 #[bs l, .agg #[a,b]] w λe w'=>e=jV (eZ l a b)/\Below w.heap.size w w':=by
 by_cases hout:a<0\/b<a\/(l.length:Int)<b
 ·have e:eZ l a b=(aW,0,1):=by unfold eZ;rw[if_pos hout]
  rw[e];exact Yq l a b w hs hout
 ·obtain⟨x,rfl⟩: ∃x:Nat,a=x:=⟨a.toNat,a_⟩;obtain⟨y,rfl⟩: ∃y:Nat,b=y:=⟨b.toNat,a_⟩;refine Yx l x y w hs a_ a_ ((l.drop x).take (y-x)) rfl (eZ l x y) ?_;unfold eZ;rw[if_neg hout];simp only[fV,show ((y:Int)-(x:Int)).toNat=y-x by omega];rfl
end
section
open Go.Lib
theorem Yz {s:aA}{V:YB}{map:Bool}{had had':List aA}{k:Nat}{st:YS}{R:YR} (h:fN s V map had k st=(R,had')):had'.length<=had.length+1:=by
 unfold fN at h;split at h
 ·simp only[] at h;split at h
  ·injection h with b a;rw[<-a];omega
  ·split at h
   ·injection h with b a;rw[<-a];omega
   ·injection h with b a;rw[<-a,bH];omega
 ·injection h with b a;rw[<-a];omega
theorem Za {s:aA}{sp:List (Nat×Nat)}{V:YB} (hV:iV s sp V) {map:Bool}{n:Nat}{ind:Int}{had had':List aA}{k nx:Nat}{st s3:YS} (hw:eS s sp st) (hk:k+1=st.lines.length) {x:bA} (hx:st.nodes[n]?=some x) (h:iM s sp V map n ind had k st= .ok nx s3 had'):
  (∃x',s3.nodes[n]?=some x'/\x'.ind=x.ind/\x'.kids.length=x.kids.length+1)/\st.nodes.length<s3.nodes.length/\had'.length<=had.length+1:=by
 have i:=Ar hV map had hw hk;unfold iM at h;obtain⟨⟨Q,had2⟩,g⟩:=exQ<|fN s V map had k st;have j:=Yz g;rw[g] at h i;cases Q with
 | bad a e=>cases h
 | ok kid s2=>
  obtain⟨g1,⟨m1,d,g2⟩,_,_,_,_⟩:=(show mN s sp k st kid s2 from i);simp only[] at h;split at h
  ·cases h
  ·split at h
   ·cases h
   ·injection h with e1 e2 e3;have f:=(aR.1 hx).1;have b:s2.nodes[n]?=some x:=by rw[g2,qO f];exact hx
    have c:=(aR.1 b).1;subst e2 e3;refine⟨?_,?_,j⟩
    ·simp only[];unfold iU;rw[xW _ n _ x b,List.getElem?_set_self c];exact⟨_,rfl,rfl,e_⟩
    ·simp only[];unfold iU;rw[Ex,g2,aT];have:=qV.2 d;omega
theorem Zb {l:List bA}{n:Nat}{x:bA} (h:l[n]?=some x): ∃post,l=l.take n++x::post:=by
 obtain⟨a,b⟩:=aR.1 h;refine⟨l.drop (n+1),?_⟩;rw[<-b,<-fL a,rR]
theorem Mq {s:aA}{sp:List (Nat×Nat)} (hsp:eR s sp) {V:YB} (hV:iV s sp V) {map:Bool}{n:Nat}{ind:Int}{had had':List aA}{k nx:Nat}{st s3:YS} (hw:eS s sp st) (hk:k+1=st.lines.length) {x:bA} (hx:st.nodes[n]?=some x) (h:iM s sp V map n ind had k st= .ok nx s3 had'):
  (∃x',s3.nodes[n]?=some x'/\x'.ind=x.ind/\x'.kids.length=x.kids.length+1)/\st.nodes.length<s3.nodes.length/\had'.length<=had.length+1/\eS s sp s3/\nx<=sp.length/\k<nx/\(nx<sp.length->nx+1=s3.lines.length):=by
 obtain⟨f,c,d⟩:=Za hV hw hk hx h;obtain⟨a,e⟩:=Zb hx;have hl:=(aR.1 hx).1;have b:=Ey hsp hV map (n:=n) ind had (k0:=k) (st0:=⟨[],st.nodes.take n,0⟩) hw hk (aD _) (by simp only[bT];omega) ⟨x,a,e⟩ ⟨st.lines,rfl⟩;rw[h] at b;exact⟨f,c,d,b.1.wf,b.1.k.1,b.2,b.1.k.2.2⟩
theorem wK {s:aA}{sp:List (Nat×Nat)}{V:YB}{map:Bool}{n:Nat}{ind kind:Int}{f:Nat}{had:List aA}{k:Nat}{st:YS} (h: ¬(k<sp.length/\(aS st.lines k).ind=ind/\(aS st.lines k).kind=kind)):nG s sp V map n ind kind f had k st= .ok n st:=by
 cases f with
 | zero=>rfl
 | succ f=>unfold nG;rw[if_neg h]
theorem Mr {s:aA}{sp:List (Nat×Nat)}{V:YB} (hV:iV s sp V) {map:Bool}{had:List aA}{k:Nat}{st:YS} (hw:eS s sp st) (hk:k+1=st.lines.length) {n:Nat}{x:bA} (hx:st.nodes[n]?=some x) (hl:x.kids.length<=131072): ∀(s2:YS) kid had',fN s V map had k st=(.ok kid s2,had')-> ∀y,s2.nodes[n]?=some y->y.kids.length<=131072:=by
 intro s2 kid had' h y a;have b:=Ar hV map had hw hk;rw[h] at b;obtain⟨g1,⟨m1,g2n,g2⟩,_⟩:=(show mN s sp k st kid s2 from b);rw[g2,qO (aR.1 hx).1,hx] at a;obtain rfl:=aV a;exact hl
end
section
open Go.RowKit
open Go.Lib hiding intOf
abbrev YQ:TypeId:=58
section
variable {Pr:aJ}{w0:World}{P:Nat}{txt:aA}{sp:List (Nat×Nat)}{st:YS}{a0 e0:Int}
theorem tC (a er:Int) (w:World) (h:YJ YQ Pr w0 P txt sp st a0 e0 w):
  Calls Tryz.prog 22 #[some P,a,er] w λe w'=>e= .returned (.bool false)/\YJ YQ Pr w0 P txt sp st a er w':=by
 have HF:=hid (h.fail a er);obtain⟨z,sv,lv,nv,_,hk⟩:=h;obtain⟨⟨c0,c1,c2,c3,c4,c5,c6⟩,f2,f3,f4,f5,f6⟩:=hk.cells;clear hk;go_enter Tryz.func22,Tryz.ntmps22;go_wp2_with fail;go_ret;exact am
theorem Fi (k:Nat) (w:World) (h:YJ YQ Pr w0 P txt sp st a0 e0 w) (hk:k<sp.length) (hkl:k<st.lines.length) (hok:wD txt (lA sp k) (aS st.lines k)) (hs:txt.length<=65536):
  Calls Tryz.prog 23 #[some P,k] w λe w'=>e= .returned (.int .i64 (((lA sp k).1:Int)+(aS st.lines k).ind))/\Below w.heap.size w w':=by
 have zn:=trivial;exact ro
end
theorem Zc {Pr:aJ}{w0:World}{P:Nat}{txt:aA}{sp:List (Nat×Nat)}{st:YS}{z:List YN}{nv:Value} (k:Nat) (w:World) (h:gU YQ Pr w0 P txt sp st.lines z nv st.total 0 0 w) (hz:z.map (·.1)=st.nodes) (hkl:k<=st.lines.length) (hll:st.lines.length<=sp.length) (hs:txt.length<=65536) (hn:sp.length<=131072):
  Calls Tryz.prog 20 #[some P,k] w (Ff YQ Pr w0 P txt sp st z nv (fR txt sp k st.lines)):=by
 obtain⟨R,G⟩:=exQ<|fR txt sp k st.lines;rw[G];unfold fR at G;obtain⟨i0,cy,cm,dg,dh⟩:=info_parts Tryz.infoLine;have HR:=hid G;have HJ:Hid (gU YQ Pr w0 P txt sp st.lines z nv st.total 0 0 w):=hid h;have ur:=hid hz;have HL:=hid (aK hkl hll);have eH:k<=sp.length:=aZ hkl hll;clear h G hkl hll hz;go_enter Tryz.func20,Tryz.ntmps20;go_wp2_with fail;go_loopw [6] (λs6 wr=> ∃(i:Nat) (ls:List aP),s6= .int .i64 (i:Int)/\i<=sp.length/\Hid (i<=ls.length/\ls.length<=sp.length)/\Hid (lW txt (sp.drop i) i ls=R)/\Hid (gU YQ Pr w0 P txt sp ls z nv st.total 0 0 wr)) (λs6 _=>sp.length+1-(RowKit.intOf s6).toNat)
 case atStart=>exact⟨k,st.lines,rfl,eH,HL,HR,HJ⟩
 case round=>
  clear HR HJ HL eH;obtain⟨k,ls,rfl,hi,HL,HR,HJ⟩:=hrel;obtain⟨n,dv⟩:=exQ<|ls.length;have HN:=hid dv;obtain⟨sv,lv,hK⟩:=HJ.out;obtain⟨⟨c0,c1,c2,c3,c4,c5,c6⟩,f2,f3,f4,f5,f6⟩:=hK.cells;obtain⟨ps,cs,rfl⟩:=hK.spSlice;obtain⟨pl,cl,rfl⟩:=hK.lnSlice;have hPl:=hK.lt;simp only[dv] at c2;have gC:(0:Int)<=(k:Int):=a_
  clear hK;by_cases hil:k<sp.length
  ·obtain⟨x,hx⟩: ∃x,sp[k]?=some x:=⟨_,bC hil⟩;have eg:sp.drop k=x::sp.drop (k+1):=dy;have hr:=HR.out;rw[eg] at hr;unfold lW at hr;have d1:decide ((k:Int)<(sp.length:Int))=true:=aO a_;have tr:(k:Int)<(sp.length:Int):=a_;have HX:=hid hx;have dw:=hid hr;clear hr eg hx dv c3 c4 c5 c6 f2 f3 f4 f5 f6;obtain⟨bk,gT⟩:=exQ<|decide (n<=k);have et:decide ((n:Int)<=(k:Int))=bk:=by rw[<-gT];exact decide_eq_decide.2 a_
   have pC:=hid gT;go_upto_if 26 with fail;go_cut [7,8,9,27,28,29,30,31,32,33,34,35,36,37,38,39,40,41,42,43,44,45,46,47,48,49,50,51,52,53,54,55,56,57,58] (λs7 s8 s9 s27 yJ oc zW uF vC zM yO yW zR zK yV Az u9 vo kQ vw vg tQ AM zw zl yu li zg zF Av r5 sA rS vj wk wx=> ∃(fp:List aP) (r:aP),Hid (fp[k]?=some r/\fp.length<=sp.length)/\Hid ((if kF r then NX.ok k fp else lW txt (sp.drop (k+1)) (k+1) fp)=R)/\Hid (gU YQ Pr w0 P txt sp fp z nv st.total 0 0 wx))
   case first=>
    clear gT et;cases bk with
    | false=>
     have gO:k<n:=by have:=of_decide_eq_false pC.out;omega
     obtain⟨l,hl⟩: ∃l,ls[k]?=some l:=⟨_,bC (by have:=HN.out;omega)⟩;have hr:=dw.out;rw[hl] at hr;simp only[] at hr;have HA:=hid (aK hl HL.out.2);have HB:=hid hr;clear hl hr gO;go_wp2_with fail;go_meet;exact⟨ls,l,HA,HB,HJ⟩
    | true=>
     have yb:=trivial;exact qj
   case rest=>
    obtain⟨fp,r,HA,HB,ed⟩:=hcut;clear HJ dw HL HN gT et pC;obtain⟨sv,lv,hK⟩:=ed.out;obtain⟨gl,c9,rfl,r4,I⟩:=hK.lineAt HA.out.1;have b0:=I 0 _ a_ rfl;simp only[Nat.add_zero] at b0;obtain⟨⟨_,c1,c2,_⟩,_⟩:=hK.cells;have jp:=hK.lt;obtain⟨n2,dv⟩:=exQ<|fp.length;have AR:(k:Int)<(n2:Int):=by have:=(aR.1 HA.out.1).1;omega
    have tn:=hid dv;rw[dv] at c2;have hr:=HB.out;obtain⟨i1,cL⟩:=exQ<|k+1;have br:(k:Int)+1=(i1:Int):=a_;have eo:i1<=sp.length:=a_;rw[cL] at hr;have a9:=hid hr;have AG:=hid (show i1<=n2 by omega);clear hr hK I r4 dv cL HB;have HC:Hid (kF r=(decide (3<=r.kind)&&decide (r.kind<=5))):=hid rfl;by_cases h3:3<=r.kind
    ·have d3:decide (3<=r.kind)=true:=aO h3;by_cases h5:r.kind<=5
     ·have d5:decide (r.kind<=5)=true:=aO h5;have hb:=a9.out;rw[if_pos (by rw[HC.out,d3,d5];rfl)] at hb;have HB:=hid hb;clear hb h3 h5;go_wp2_with fail;go_ret2;rw[<-HB.out];exact⟨rfl,ed.out⟩
     ·have d5:decide (r.kind<=5)=false:=aG h5;have hb:=a9.out;rw[if_neg (by rw[HC.out,d5];simp)] at hb;have HB:=hid hb;clear hb h3 h5;go_wp2_with fail;go_roundw
      ·exact lp
      ·exact aq
    ·have d3:decide (3<=r.kind)=false:=aG h3;have hb:=a9.out;rw[if_neg (by rw[HC.out,d3];simp)] at hb;have HB:=hid hb;clear hb h3;go_wp2_with fail;go_roundw
     ·exact lp
     ·exact aq
  ·have hI:k=sp.length:=a_;exact jj
theorem Be {Pr:aJ}{w0:World}{P:Nat}{txt:aA}{sp:List (Nat×Nat)}{st:YS} (k:Nat) (w:World) (h:YJ YQ Pr w0 P txt sp st 0 0 w) (hkl:k<=st.lines.length) (hll:st.lines.length<=sp.length) (hs:txt.length<=65536) (hn:sp.length<=131072):
  Calls Tryz.prog 20 #[some P,k] w (rD YQ Pr w0 P txt sp st (fR txt sp k st.lines)):=by
 obtain⟨z,sv,lv,nv,c,f⟩:=h;refine(Zc k w ⟨sv,lv,f⟩ c hkl hll hs hn).mono (λe w' b=>?_);exact kj
end
end Go.Proofs.YtfhjncbdgjlcoaaGreatDoor
