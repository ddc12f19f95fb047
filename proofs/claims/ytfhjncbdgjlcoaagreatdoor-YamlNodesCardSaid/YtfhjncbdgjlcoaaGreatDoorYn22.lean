import Derived.Test.YtfhjncbdgjlcoaaGreatDoorYn21
set_option linter.unusedVariables false
set_option linter.unusedSimpArgs false
set_option maxRecDepth 100000
set_option maxHeartbeats 20000000
namespace Go.Proofs.YtfhjncbdgjlcoaaGreatDoor
open Tryz
section
open Go.RowKit
open Go.Lib hiding intOf
theorem aAp (l:aC) (x y:Nat) (w:World) (hs:l.length<=1073741824) (hxy:x<=y) (hyl:y<=l.length) (T:aC) (hTd:(l.drop x).take (y-x)=T) (R:aS×Int×Int)
  (hC1:Hid (T.contains 10=false)) (hC2:Hid (¬dI true T<T.length)) (hC3:Hid (¬bB T=T.length)) (hC4:Hid (¬(T.drop (bB T)).head?=some 35)) (hC5:Hid (¬(((T.drop (bB T)).head?=some 34\/(T.drop (bB T)).head?=some 39)/\dA (T.drop (bB T))=0))) (hR:(if T.contains 10 then(bG,0,1) else if dI true T<T.length then(bG,(x:Int)+dI true T,2) else lX x y (bB T) (gG (T.drop (bB T))):aS×Int×Int)=R):
  Calls prog 36 #[bs l, .agg #[x,y]] w λe w'=>e=kM R/\aA w w':=by
 have KY:=trivial;exact GN
theorem aAq (l:aC) (x y:Nat) (w:World) (hs:l.length<=1073741824) (hxy:x<=y) (hyl:y<=l.length) (T:aC) (hTd:(l.drop x).take (y-x)=T) (R:aS×Int×Int)
  (hR:(if T.contains 10 then(bG,0,1) else if dI true T<T.length then(bG,(x:Int)+dI true T,2) else lX x y (bB T) (gG (T.drop (bB T))):aS×Int×Int)=R):
  Calls prog 36 #[bs l, .agg #[x,y]] w λe w'=>e=kM R/\aA w w':=by
 by_cases a:T.contains 10=true
 .exact aAk l x y w hs hxy hyl T hTd R a hR
 have a:T.contains 10=false:=J1
 by_cases h2:dI true T<T.length
 .exact aAl l x y w hs hxy hyl T hTd R a h2 hR
 by_cases h3:bB T=T.length
 .exact aAm l x y w hs hxy hyl T hTd R a h2 h3 hR
 by_cases h4:(T.drop (bB T)).head?=some 35
 .exact aAn l x y w hs hxy hyl T hTd R a h2 h3 h4 hR
 by_cases h5:((T.drop (bB T)).head?=some 34\/(T.drop (bB T)).head?=some 39)/\dA (T.drop (bB T))=0
 .exact aAo l x y w hs hxy hyl T hTd R a h2 h3 h4 h5 hR
 .exact aAp l x y w hs hxy hyl T hTd R a h2 h3 h4 h5 hR
theorem aAr (l:aC) (a b:Int) (w:World) (hs:l.length<=1073741824):
  Calls prog 36 #[bs l, .agg #[a,b]] w λe w'=>e=kM (fN l a b)/\aA w w':=by
 by_cases hout:a<0\/b<a\/(l.length:Int)<b
 .have e:fN l a b=(bG,0,1):=by unfold fN;rw[if_pos hout]
  rw[e];exact aAj l a b w hs hout
 .obtain⟨x,rfl⟩: ∃x:Nat,a=x:=⟨a.toNat,a_⟩;obtain⟨y,rfl⟩: ∃y:Nat,b=y:=⟨b.toNat,a_⟩;refine aAq l x y w hs a_ a_ ((l.drop x).take (y-x)) rfl (fN l x y) ?_;unfold fN;rw[if_neg hout];simp only[gA,show ((y:Int)-(x:Int)).toNat=y-x by omega];rfl
end
section
open Go.Lib
theorem aAs {s:aB}{V:YB}{map:Bool}{had had':List aB}{k:Nat}{st:YS}{R:YR} (h:eM s V map had k st=(R,had')):had'.length<=had.length+1:=by
 unfold eM at h;split at h
 .simp only[] at h;split at h
  .injection h with b a;rw[<-a];omega
  .split at h
   .injection h with b a;rw[<-a];omega
   .injection h with b a;rw[<-a,bM];omega
 .injection h with b a;rw[<-a];omega
theorem aAt {s:aB}{sp:List (Nat×Nat)}{V:YB} (hV:gS s sp V) {map:Bool}{n:Nat}{ind:Int}{had had':List aB}{k nx:Nat}{st s3:YS} (hw:dR s sp st) (hk:k+1=st.lines.length) {x:aV} (hx:st.nodes[n]?=some x) (h:fW s sp V map n ind had k st= .ok nx s3 had'):
  (∃x',s3.nodes[n]?=some x'/\x'.ind=x.ind/\x'.kids.length=x.kids.length+1)/\st.nodes.length<s3.nodes.length/\had'.length<=had.length+1:=JI
theorem aAu {l:List aV}{n:Nat}{x:aV} (h:l[n]?=some x): ∃post,l=l.take n++x::post:=by
 obtain⟨a,b⟩:=aW.1 h;refine⟨l.drop (n+1),?_⟩;rw[<-b,<-gB a,sS]
theorem Cb {s:aB}{sp:List (Nat×Nat)} (hsp:dV s sp) {V:YB} (hV:gS s sp V) {map:Bool}{n:Nat}{ind:Int}{had had':List aB}{k nx:Nat}{st s3:YS} (hw:dR s sp st) (hk:k+1=st.lines.length) {x:aV} (hx:st.nodes[n]?=some x) (h:fW s sp V map n ind had k st= .ok nx s3 had'):
  (∃x',s3.nodes[n]?=some x'/\x'.ind=x.ind/\x'.kids.length=x.kids.length+1)/\st.nodes.length<s3.nodes.length/\had'.length<=had.length+1/\dR s sp s3/\nx<=sp.length/\k<nx/\(nx<sp.length->nx+1=s3.lines.length):=by
 obtain⟨c,f,e⟩:=aAt hV hw hk hx h;obtain⟨b,d⟩:=aAu hx;have hl:=(aW.1 hx).1;have a:=Fv hsp hV map (n:=n) ind had (k0:=k) (st0:=⟨[],st.nodes.take n,0⟩) hw hk (aF _) (by simp only[bR];omega) ⟨x,b,d⟩ ⟨st.lines,rfl⟩;rw[h] at a;exact⟨c,f,e,a.1.wf,a.1.k.1,a.2,a.1.k.2.2⟩
theorem wX {s:aB}{sp:List (Nat×Nat)}{V:YB}{map:Bool}{n:Nat}{ind kind:Int}{f:Nat}{had:List aB}{k:Nat}{st:YS} (h: ¬(k<sp.length/\(aU st.lines k).ind=ind/\(aU st.lines k).kind=kind)):jM s sp V map n ind kind f had k st= .ok n st:=by
 cases f with
 | zero=>rfl
 | succ f=>unfold jM;rw[if_neg h]
theorem Nr {s:aB}{sp:List (Nat×Nat)}{V:YB} (hV:gS s sp V) {map:Bool}{had:List aB}{k:Nat}{st:YS} (hw:dR s sp st) (hk:k+1=st.lines.length) {n:Nat}{x:aV} (hx:st.nodes[n]?=some x) (hl:x.kids.length<=131072): ∀(s2:YS) kid had',eM s V map had k st=(.ok kid s2,had')-> ∀y,s2.nodes[n]?=some y->y.kids.length<=131072:=by
 intro s2 kid had' h y a;have b:=wQ hV map had hw hk;rw[h] at b;obtain⟨g1,⟨m1,g2n,g2⟩,_⟩:=(show lA s sp k st kid s2 from b);rw[g2,oV (aW.1 hx).1,hx] at a;obtain rfl:=bA a;exact hl
end
section
open Go.RowKit
open Go.Lib hiding intOf
abbrev YQ:TypeId:=58
section
variable {Pr:aO}{w0:World}{P:Nat}{txt:aB}{sp:List (Nat×Nat)}{st:YS}{a0 e0:Int}
theorem tV (a er:Int) (w:World) (h:YJ YQ Pr w0 P txt sp st a0 e0 w):
  Calls prog 22 #[some P,a,er] w λe w'=>e= .returned (.bool false)/\YJ YQ Pr w0 P txt sp st a er w':=j8
theorem Gc (k:Nat) (w:World) (h:YJ YQ Pr w0 P txt sp st a0 e0 w) (hk:k<sp.length) (hkl:k<st.lines.length) (hok:wN txt (lY sp k) (aU st.lines k)) (hs:txt.length<=65536):
  Calls prog 23 #[some P,k] w (aT w (.int .i64 (((lY sp k).1:Int)+(aU st.lines k).ind))):=IE
end
theorem aAv {Pr:aO}{w0:World}{P:Nat}{txt:aB}{sp:List (Nat×Nat)}{st:YS}{z:List YN}{nv:Value} (k:Nat) (w:World) (h:iL YQ Pr w0 P txt sp st.lines z nv st.total 0 0 w) (hz:z.map (·.1)=st.nodes) (hkl:k<=st.lines.length) (hll:st.lines.length<=sp.length) (hs:txt.length<=65536) (hn:sp.length<=131072):
  Calls prog 20 #[some P,k] w (Fz YQ Pr w0 P txt sp st z nv (eX txt sp k st.lines)):=by
 obtain⟨R,I⟩:=exQ<|eX txt sp k st.lines;rw[I];unfold eX at I;obtain⟨i0,du,ds,ee,ei⟩:=info_parts infoLine;have HR:=hid I;have HJ:Hid (iL YQ Pr w0 P txt sp st.lines z nv st.total 0 0 w):=hid h;have xK:=hid hz;have HL:=hid (aK hkl hll);have fR:k<=sp.length:=bF hkl hll;clear h I hkl hll hz;go_in;go_wp2;go_loopw [6] (λs6 wr=> ∃(i:Nat) (ls:List aS),s6= .int .i64 (i:Int)/\i<=sp.length/\Hid (i<=ls.length/\ls.length<=sp.length)/\Hid (mX txt (sp.drop i) i ls=R)/\Hid (iL YQ Pr w0 P txt sp ls z nv st.total 0 0 wr)) (λs6 _=>sp.length+1-(RowKit.intOf s6).toNat)
 case atStart=>exact⟨k,st.lines,rfl,fR,HL,HR,HJ⟩
 case round=>
  clear HR HJ HL fR;obtain⟨k,ls,rfl,hi,HL,HR,HJ⟩:=hrel;obtain⟨n,ep⟩:=exQ<|ls.length;have HN:=hid ep;obtain⟨sv,lv,hK⟩:=HJ.out;obtain⟨⟨c0,c1,c2,c3,c4,c5,c6⟩,f2,f3,f4,f5,f6⟩:=hK.cells;obtain⟨ps,cs,rfl⟩:=hK.spSlice;obtain⟨pl,cl,rfl⟩:=hK.lnSlice;have hPl:=hK.lt;simp only[ep] at c2;have gX:(0:Int)<=(k:Int):=a_
  clear hK;by_cases hil:k<sp.length
  .obtain⟨x,hx⟩: ∃x,sp[k]?=some x:=⟨_,bI hil⟩;have fc:sp.drop k=x::sp.drop (k+1):=D5;have hr:=HR.out;rw[fc] at hr;unfold mX at hr;have d1:decide ((k:Int)<(sp.length:Int))=true:=aQ a_;have vi:(k:Int)<(sp.length:Int):=a_;have HX:=hid hx;have eG:=hid hr;clear hr fc hx ep c3 c4 c5 c6 f2 f3 f4 f5 f6;obtain⟨bk,hW⟩:=exQ<|decide (n<=k);have dB:decide ((n:Int)<=(k:Int))=bk:=by rw[<-hW];exact decide_eq_decide.2 a_
   have sy:=hid hW;go_upto_if 26 with fail;go_cut [7,8,9,27,28,29,30,31,32,33,34,35,36,37,38,39,40,41,42,43,44,45,46,47,48,49,50,51,52,53,54,55,56,57,58] (λs7 s8 s9 s27 AT op BP Ag zk CZ Bf Cw BV AL Az Dq z9 yN nj xl Ad xm Dk C5 Bp Cf fi Bx Cd Bu vA vx vU ri rG wx=> ∃(ig:List aS) (r:aS),Hid (ig[k]?=some r/\ig.length<=sp.length)/\Hid ((if kY r then NX.ok k ig else mX txt (sp.drop (k+1)) (k+1) ig)=R)/\Hid (iL YQ Pr w0 P txt sp ig z nv st.total 0 0 wx))
   case first=>
    clear hW dB;cases bk with
    | false=>
     have im:k<n:=by have:=of_decide_eq_false sy.out;omega
     obtain⟨l,hl⟩: ∃l,ls[k]?=some l:=⟨_,bI (by have:=HN.out;omega)⟩;have hr:=eG.out;rw[hl] at hr;simp only[] at hr;have HA:=hid (aK hl HL.out.2);have HB:=hid hr;clear hl hr im;go_wp2;go_meet;exact⟨ls,l,HA,HB,HJ⟩
    | true=>
     have RK:=trivial;exact PO
   case rest=>
    obtain⟨ig,r,HA,HB,fo⟩:=hcut;clear HJ eG HL HN hW dB sy;obtain⟨sv,lv,hK⟩:=fo.out;obtain⟨gl,c9,rfl,vo,L⟩:=hK.lineAt HA.out.1;have b0:=L 0 _ a_ rfl;simp only[Nat.add_zero] at b0;obtain⟨⟨_,c1,c2,_⟩,_⟩:=hK.cells;have lq:=hK.lt;obtain⟨n2,ep⟩:=exQ<|ig.length;have vz:(k:Int)<(n2:Int):=by have:=(aW.1 HA.out.1).1;omega
    have vj:=hid ep;rw[ep] at c2;have hr:=HB.out;obtain⟨i1,cN⟩:=exQ<|k+1;have bt:(k:Int)+1=(i1:Int):=a_;have fy:i1<=sp.length:=a_;rw[cN] at hr;have bh:=hid hr;have Bl:=hid (show i1<=n2 by omega);clear hr hK L vo ep cN HB;have HC:Hid (kY r=(decide (3<=r.kind)&&decide (r.kind<=5))):=hid rfl;by_cases h3:3<=r.kind
    .have d3:decide (3<=r.kind)=true:=aQ h3;by_cases h5:r.kind<=5
     .have d5:decide (r.kind<=5)=true:=aQ h5;have hb:=bh.out;rw[if_pos (by rw[HC.out,d3,d5];rfl)] at hb;have HB:=hid hb;clear hb h3 h5;go_wp2;go_ret2;rw[<-HB.out];exact⟨rfl,fo.out⟩
     .have d5:decide (r.kind<=5)=false:=aJ h5;have hb:=bh.out;rw[if_neg (by rw[HC.out,d5];simp)] at hb;have HB:=hid hb;clear hb h3 h5;go_wp2;go_roundw
      .exact mq
      .exact ao
    .have d3:decide (3<=r.kind)=false:=aJ h3;have hb:=bh.out;rw[if_neg (by rw[HC.out,d3];simp)] at hb;have HB:=hid hb;clear hb h3;go_wp2;go_roundw
     .exact mq
     .exact ao
  .have jh:k=sp.length:=a_;exact E6
theorem Cc {Pr:aO}{w0:World}{P:Nat}{txt:aB}{sp:List (Nat×Nat)}{st:YS} (k:Nat) (w:World) (h:YJ YQ Pr w0 P txt sp st 0 0 w) (hkl:k<=st.lines.length) (hll:st.lines.length<=sp.length) (hs:txt.length<=65536) (hn:sp.length<=131072):
  Calls prog 20 #[some P,k] w (sF YQ Pr w0 P txt sp st (eX txt sp k st.lines)):=by
 obtain⟨z,sv,lv,nv,c,f⟩:=h;refine(aAv k w ⟨sv,lv,f⟩ c hkl hll hs hn).mono (λe w' b=>?_);exact FJ
end
end Go.Proofs.YtfhjncbdgjlcoaaGreatDoor
