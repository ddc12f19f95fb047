import Derived.Test.YtfhjncbdgjlcoaaGreatDoorYn28
import Derived.Test.YtfhjncbdgjlcoaaGreatDoorYn25
set_option linter.unusedVariables false
set_option linter.unusedSimpArgs false
set_option maxRecDepth 100000
set_option maxHeartbeats 8000000
namespace Go.Proofs.YtfhjncbdgjlcoaaGreatDoor
open Tryz
open Go.RowKit
open Go.Lib hiding intOf
theorem Gr: ∀(f:Nat) (l:aC) (i:Nat) (acc:aC),(i:Int)<=(jT f l i acc).2.1/\(jT f l i acc).2.1<=i+l.length
 | 0,_,_,_=>by simp[jT];omega
 | _+1,[],_,_=>by simp[jT]
 | f+1,c::r,i,acc=>by
  rw[wF];split
  .split
   .rename_i h;have:=Gr f (r.drop 1) (i+2) (acc++ [39]);rw[bC] at this;have h0:0<r.length:=GP;simp only[bM];omega
   .simp only[bM];omega
  .split
   .simp only[bM];omega
   .have hle:=decodeL_le (c::r) (List.cons_ne_nil _ _);have:=Gr f ((c::r).drop (decodeL (c::r)).2) (i+(decodeL (c::r)).2) (acc++(c::r).take (decodeL (c::r)).2);rw[bC] at this;omega
theorem aBx (l:aC):0<=(iJ l 0).2.1/\(iJ l 0).2.1<=l.length:=by
 unfold iJ;rw[if_neg a_];by_cases h1:l[(0:Int).toNat]?=some 39
 .rw[if_pos h1];have:=Gr (l.length+1) (l.drop ((0:Int).toNat+1)) ((0:Int).toNat+1) [];exact FZ
 .rw[if_neg h1];simp
theorem Gs: ∀(f:Nat) (l:aC) (i:Nat) (acc:aC),(jT f l i acc).2.2=0\/(jT f l i acc).2.2=2
 | 0,_,_,_=> .inr rfl
 | _+1,[],_,_=> .inr rfl
 | f+1,c::r,i,acc=>by
  rw[wF];split
  .split
   .exact Gs f _ _ _
   .exact .inl rfl
  .split
   .exact .inr rfl
   .exact Gs f _ _ _
theorem aBy (l:aC) (a:Int):(iJ l a).2.2=0\/(iJ l a).2.2=2:=by
 unfold iJ;split
 .exact .inr rfl
 .split
  .exact Gs _ _ _ _
  .exact .inr rfl
theorem aBz (t:aB) (w:World) (hs:t.length<=1073741824) (hV:bV w) (hCJ: ∀w',Calls prog 59 #[bs t] w' (Bf (jV t).1 (jV t).2.1 (jV t).2.2 w')):
    Calls prog 31 #[bs t] w (pW (gQ t).1 (gQ t).2 w):=by
  have QT:=trivial;exact PD
theorem aBA (l:aB) (a:Int) (h:(cD l a).2.2≠0):(cD l a).1= []:=by
 unfold cD at h ⊢;split
 .rename_i c;rw[if_pos c] at h;rcases(Dj (l.length+1) (l.drop (a.toNat+1)) (a.toNat+1) []).2 with b | b
  .exact absurd b h
  .exact b.2
 .rfl
theorem aBB (t:aB) (h:(jK t).2≠0):(jK t).1= []:=by
 unfold jK at h ⊢;split
 .rename_i b;rw[if_pos b] at h;unfold tR at h ⊢;split
  .rfl
  .rename_i a;rw[if_neg a] at h;exact absurd rfl h
 .rename_i b;rw[if_neg b] at h;show (eH t).1= [];change (eH t).2.2≠0 at h;unfold eH at h ⊢;split
  .rfl
  .rename_i a;rw[if_neg a] at h;exact aBA t 0 h
theorem aBC (t:aB) (h:t.head?=some 34\/t.head?=some 39):(gQ t).1.text=(jK t).1/\(gQ t).2=(jK t).2:=by
 cases t with
 | nil=>simp at h
 | cons c r=>
  have a:c=34\/c=39:=s'
  unfold gQ;simp only[];rw[if_pos a];by_cases he:(jK (c::r)).2=0
  .rw[if_neg (by simp[he])];exact⟨rfl,he.symm⟩
  .rw[if_pos he];exact⟨(aBB _ he).symm,rfl⟩
theorem aBD (t:aB) (w:World) (hs:t.length<=1073741824) (hR: ∀w',aA w w'->Calls prog 31 #[bs t] w' (pW (gQ t).1 (gQ t).2 w')):
  Calls prog 33 #[bs t] w λe w'=>e=mT (jW t)/\aA w w':=by
 have M4:=trivial;exact IW
abbrev qY:=Option Addr×Nat×Option Addr×Nat
def o1 (q:Option qY):Option Addr:=q.bind (·.1)
def o2 (q:Option qY):Nat:=(q.map (·.2.1)).getD 0
def o3 (q:Option qY):Option Addr:=q.bind (·.2.2.1)
def o4 (q:Option qY):Nat:=(q.map (·.2.2.2)).getD 0
abbrev vK (T:VT) (p:qY):Value:= .slice p.1 T.keys.length p.2.1
abbrev vL (T:VT) (p:qY):Value:= .slice p.2.2.1 T.items.length p.2.2.2
def oL (W0:World) (T:VT):Option qY->Nat->Value->World->Prop
 | none,0,_,w'=>Below W0.heap.size W0 w'
 | none,_,_,_=>True
 | some p,0,_,w'=>Below W0.heap.size W0 w'/\gF W0.heap.size w' T.depth T (vK T p) (vL T p)
 | some p,_,c,w'=> ∃Y,c= .pointer (some ⟨Y,0,none⟩)/\W0.heap.size<=Y/\w'.heap[Y]?=some (.cells #[T.kind,bs T.text,vK T p,vL T p] 36)/\Below W0.heap.size W0 w'/\fS (λz=>W0.heap.size<=z/\z≠Y) w' T.depth T (vK T p) (vL T p)
def tX (W0:World) (T:VT) (q:Option qY) (x:Value) (w':World):Prop:= ∃Y,x= .pointer (some ⟨Y,0,none⟩)/\W0.heap.size<=Y/\w'.heap[Y]?=some (.cells #[(0:Int),bs [],(),()] 36)/\ ∀p,q=some p->fS (λz=>W0.heap.size<=z/\z≠Y) w' T.depth T (vK T p) (vL T p)
section
variable {W0 w' w2:World}{T:VT}{q:Option qY}
theorem oL.bel {c:Value} (h:oL W0 T q 0 c w'):aA W0 w':=by
 cases q with
 | none=>exact h
 | some p=>exact h.1
theorem oL.keep {k:Nat}{c:Value} (h:oL W0 T q k c w') (hb:aA w' w2):oL W0 T q k c w2:=by
 cases q with
 | none=>cases k with
  | zero=>exact aE (show aA W0 w' from h) hb
  | succ k=>trivial
 | some p=>cases k with
  | zero=>exact⟨aE h.1 hb,h.2.keep hb⟩
  | succ k=>
   obtain⟨Y,b,e,a,f,d⟩:=h;exact⟨Y,b,e,(hb.block Y (aG a)).trans a,aE f hb,d.keep hb⟩
theorem tX.new {c:Value} (h:oL W0 T q 0 c w'):tX W0 T q (.pointer (some ⟨w'.heap.size,0,none⟩)) (w'.alloc (.cells #[(0:Int), .string ⟨#[]⟩,(),()] 36)):=by
 refine⟨_,rfl,h.bel.size,heap_alloc_new w' _,λp a=>?_⟩;subst a;exact(h.2.mono (λz b hl=>⟨b,a_⟩)).keep (aL _ _)
theorem tX.call {x:Value}{p:qY} (h:tX W0 T none x w') (hv:gF w'.heap.size w2 T.depth T (vK T p) (vL T p)) (hb:aA w' w2):tX W0 T (some p) x w2:=by
 obtain⟨Y,f,e,a,_⟩:=h;have d:=aG a;exact⟨Y,f,e,(hb.block Y d).trans a,λp' c=>by obtain rfl:=bA c;exact hv.mono (λz b _=>by have b:w'.heap.size<=z:=b;exact⟨a_,a_⟩)⟩
theorem oL.put {c x:Value}{Y:Nat} (h:oL W0 T q 0 c w') (hx:x= .pointer (some ⟨Y,0,none⟩)) (hY:W0.heap.size<=Y) (hb:w'.heap[Y]?=some (.cells #[(0:Int),bs [],(),()] 36)) (ht: ∀p,q=some p->fS (λz=>W0.heap.size<=z/\z≠Y) w' T.depth T (vK T p) (vL T p)):
  oL W0 T q 1 x (bD w' Y T.kind T.text (.slice (o1 q) T.keys.length (o2 q)) (.slice (o3 q) T.items.length (o4 q))):=by
 cases q with
 | none=>trivial
 | some p=>exact⟨Y,hx,hY,rW hb,rV h.1 hY,(ht p rfl).agree (λz a _=>⟨Be a.2,a⟩)⟩
end
theorem Cj {Pr:aO}{w0:World}{P:Nat}{txt:aB}{sp:List (Nat×Nat)}{st:YS} (k:Nat) (kf kt:Int) (lv:Nat) (lev:Int) (w:World) (h:YJ YQ Pr w0 P txt sp st 0 0 w) (hkl:k<st.lines.length) (hw:dR txt sp st) (hl:Hid (lev=33-(lv:Int))) (hlv:lv<=32) (hsp:dV txt sp) (hs:txt.length<=65536) (hn:sp.length<=131072) (hV:bV w0) (hRd: ∀(s:aB) w',s.length<=65536->bV w'->Calls prog 31 #[bs s] w' (pW (gQ s).1 (gQ s).2 w')):
  Calls prog 37 #[some P,k,lev, .agg #[kf,kt], .int .i64 (aU st.lines k).rf] w (sH YQ Pr w0 P txt sp (iB txt lv k kf kt st)):=by
 have QY:=trivial;exact PH
theorem sH.any {T:TypeId}{Pr:aO}{w0:World}{P:Nat}{txt:aB}{sp:List (Nat×Nat)}{R:YR}{e:Ending}{w:World} (h:sH T Pr w0 P txt sp R e w):fG T Pr w0 P txt sp R e w:=by
 cases R with
 | ok n s1=>exact h
 | bad b er=>exact⟨⟨_,h.1⟩,h.2⟩
end Go.Proofs.YtfhjncbdgjlcoaaGreatDoor
