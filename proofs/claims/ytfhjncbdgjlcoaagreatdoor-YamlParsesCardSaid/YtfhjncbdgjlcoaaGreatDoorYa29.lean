import Derived.Test.YtfhjncbdgjlcoaaGreatDoorYa28
import Derived.Test.YtfhjncbdgjlcoaaGreatDoorYa25
set_option maxRecDepth 100000
set_option maxHeartbeats 8000000
set_option linter.unusedVariables false
set_option linter.unusedSimpArgs false
namespace Go.Proofs.YtfhjncbdgjlcoaaGreatDoor
open Go.RowKit
open Go.Lib hiding intOf
theorem Fw: ∀(f:Nat) (l:List UInt8) (i:Nat) (acc:List UInt8),(i:Int)<=(jB f l i acc).2.1/\(jB f l i acc).2.1<=i+l.length
 | 0,_,_,_=>by simp[jB];omega
 | _+1,[],_,_=>by simp[jB]
 | f+1,c::r,i,acc=>by
  rw[vV];split
  ·split
   ·rename_i h;have:=Fw f (r.drop 1) (i+2) (acc++ [39]);rw[aU] at this;have h0:0<r.length:=EF;simp only[bH];omega
   ·simp only[bH];omega
  ·split
   ·simp only[bH];omega
   ·have hle:=decodeL_le (c::r) (List.cons_ne_nil _ _);have:=Fw f ((c::r).drop (decodeL (c::r)).2) (i+(decodeL (c::r)).2) (acc++(c::r).take (decodeL (c::r)).2);rw[aU] at this;omega
theorem aAE (l:List UInt8):0<=(gT l 0).2.1/\(gT l 0).2.1<=l.length:=by
 unfold gT;rw[if_neg a_];by_cases h1:l[(0:Int).toNat]?=some 39
 ·rw[if_pos h1];have:=Fw (l.length+1) (l.drop ((0:Int).toNat+1)) ((0:Int).toNat+1) [];exact mt
 ·rw[if_neg h1];simp
theorem Fx: ∀(f:Nat) (l:List UInt8) (i:Nat) (acc:List UInt8),(jB f l i acc).2.2=0\/(jB f l i acc).2.2=2
 | 0,_,_,_=> .inr rfl
 | _+1,[],_,_=> .inr rfl
 | f+1,c::r,i,acc=>by
  rw[vV];split
  ·split
   ·exact Fx f _ _ _
   ·exact .inl rfl
  ·split
   ·exact .inr rfl
   ·exact Fx f _ _ _
theorem aAF (l:List UInt8) (a:Int):(gT l a).2.2=0\/(gT l a).2.2=2:=by
 unfold gT;split
 ·exact .inr rfl
 ·split
  ·exact Fx _ _ _ _
  ·exact .inr rfl
theorem aAG (t:aA) (w:World) (hs:t.length<=1073741824) (hV:bU w) (hCJ: ∀w',Calls Tryz.prog 59 #[bs t] w' (Ah (jL t).1 (jL t).2.1 (jL t).2.2 w')):
    Calls Tryz.prog 31 #[bs t] w (pS (iB t).1 (iB t).2 w):=by
  have wb:=trivial;exact pw
theorem aAH (l:aA) (a:Int) (h:(bV l a).2.2≠0):(bV l a).1= []:=by
 unfold bV at h ⊢;split
 ·rename_i c;rw[if_pos c] at h;rcases(Ck (l.length+1) (l.drop (a.toNat+1)) (a.toNat+1) []).2 with b | b
  ·exact absurd b h
  ·exact b.2
 ·rfl
theorem aAI (t:aA) (h:(iT t).2≠0):(iT t).1= []:=by
 unfold iT at h ⊢;split
 ·rename_i b;rw[if_pos b] at h;unfold sW at h ⊢;split
  ·rfl
  ·rename_i a;rw[if_neg a] at h;exact absurd rfl h
 ·rename_i b;rw[if_neg b] at h;show (dR t).1= [];change (dR t).2.2≠0 at h;unfold dR at h ⊢;split
  ·rfl
  ·rename_i a;rw[if_neg a] at h;exact aAH t 0 h
theorem aAJ (t:aA) (h:t.head?=some 34\/t.head?=some 39):(iB t).1.text=(iT t).1/\(iB t).2=(iT t).2:=by
 cases t with
 | nil=>simp at h
 | cons c r=>
  have a:c=34\/c=39:=r_
  unfold iB;simp only[];rw[if_pos a];by_cases he:(iT (c::r)).2=0
  ·rw[if_neg (by simp[he])];exact⟨rfl,he.symm⟩
  ·rw[if_pos he];exact⟨(aAI _ he).symm,rfl⟩
theorem aAK (t:aA) (w:World) (hs:t.length<=1073741824) (hR: ∀w',Below w.heap.size w w'->Calls Tryz.prog 31 #[bs t] w' (pS (iB t).1 (iB t).2 w')):
  Calls Tryz.prog 33 #[bs t] w λe w'=>e=mG (jM t)/\Below w.heap.size w w':=by
 have AI:=trivial;exact sh
abbrev qA:=Option Addr×Nat×Option Addr×Nat
def o1 (q:Option qA):Option Addr:=q.bind (·.1)
def o2 (q:Option qA):Nat:=(q.map (·.2.1)).getD 0
def o3 (q:Option qA):Option Addr:=q.bind (·.2.2.1)
def o4 (q:Option qA):Nat:=(q.map (·.2.2.2)).getD 0
abbrev uU (T:VT) (p:qA):Value:= .slice p.1 T.keys.length p.2.1
abbrev uV (T:VT) (p:qA):Value:= .slice p.2.2.1 T.items.length p.2.2.2
def nK (W0:World) (T:VT):Option qA->Nat->Value->World->Prop
 | none,0,_,w'=>Below W0.heap.size W0 w'
 | none,_,_,_=>True
 | some p,0,_,w'=>Below W0.heap.size W0 w'/\fX W0.heap.size w' T.depth T (uU T p) (uV T p)
 | some p,_,c,w'=> ∃Y,c= .pointer (some ⟨Y,0,none⟩)/\W0.heap.size<=Y/\w'.heap[Y]?=some (.cells #[T.kind,bs T.text,uU T p,uV T p] 36)/\Below W0.heap.size W0 w'/\fC (λz=>W0.heap.size<=z/\z≠Y) w' T.depth T (uU T p) (uV T p)
def tE (W0:World) (T:VT) (q:Option qA) (x:Value) (w':World):Prop:= ∃Y,x= .pointer (some ⟨Y,0,none⟩)/\W0.heap.size<=Y/\w'.heap[Y]?=some (.cells #[(0:Int),bs [],(),()] 36)/\ ∀p,q=some p->fC (λz=>W0.heap.size<=z/\z≠Y) w' T.depth T (uU T p) (uV T p)
section
variable {W0 w' w2:World}{T:VT}{q:Option qA}
theorem nK.bel {c:Value} (h:nK W0 T q 0 c w'):Below W0.heap.size W0 w':=by
 cases q with
 | none=>exact h
 | some p=>exact h.1
theorem nK.keep {k:Nat}{c:Value} (h:nK W0 T q k c w') (hb:Below w'.heap.size w' w2):nK W0 T q k c w2:=by
 cases q with
 | none=>cases k with
  | zero=>exact aC (show Below W0.heap.size W0 w' from h) hb
  | succ k=>trivial
 | some p=>cases k with
  | zero=>exact⟨aC h.1 hb,h.2.keep hb⟩
  | succ k=>
   obtain⟨Y,e,d,a,f,b⟩:=h;exact⟨Y,e,d,(hb.block Y (aF a)).trans a,aC f hb,b.keep hb⟩
theorem tE.new {c:Value} (h:nK W0 T q 0 c w'):tE W0 T q (.pointer (some ⟨w'.heap.size,0,none⟩)) (w'.alloc (.cells #[(0:Int), .string ⟨#[]⟩,(),()] 36)):=by
 refine⟨_,rfl,h.bel.size,heap_alloc_new w' _,λp a=>?_⟩;subst a;exact(h.2.mono (λz b hl=>⟨b,a_⟩)).keep (aL _ _)
theorem tE.call {x:Value}{p:qA} (h:tE W0 T none x w') (hv:fX w'.heap.size w2 T.depth T (uU T p) (uV T p)) (hb:Below w'.heap.size w' w2):tE W0 T (some p) x w2:=by
 obtain⟨Y,f,c,a,_⟩:=h;have d:=aF a;exact⟨Y,f,c,(hb.block Y d).trans a,λp' e=>by obtain rfl:=aV e;exact hv.mono (λz b _=>by have b:w'.heap.size<=z:=b;exact⟨a_,a_⟩)⟩
theorem nK.put {c x:Value}{Y:Nat} (h:nK W0 T q 0 c w') (hx:x= .pointer (some ⟨Y,0,none⟩)) (hY:W0.heap.size<=Y) (hb:w'.heap[Y]?=some (.cells #[(0:Int),bs [],(),()] 36)) (ht: ∀p,q=some p->fC (λz=>W0.heap.size<=z/\z≠Y) w' T.depth T (uU T p) (uV T p)):
  nK W0 T q 1 x (bB w' Y T.kind T.text (.slice (o1 q) T.keys.length (o2 q)) (.slice (o3 q) T.items.length (o4 q))):=by
 cases q with
 | none=>trivial
 | some p=>exact⟨Y,hx,hY,uJ hb,uI h.1 hY,(ht p rfl).agree (λz a _=>⟨Ag a.2,a⟩)⟩
end
theorem Bm {Pr:aJ}{w0:World}{P:Nat}{txt:aA}{sp:List (Nat×Nat)}{st:YS} (k:Nat) (kf kt:Int) (lv:Nat) (lev:Int) (w:World) (h:YJ YQ Pr w0 P txt sp st 0 0 w) (hkl:k<st.lines.length) (hw:eS txt sp st) (hl:Hid (lev=33-(lv:Int))) (hlv:lv<=32) (hsp:eR txt sp) (hs:txt.length<=65536) (hn:sp.length<=131072) (hV:bU w0) (hRd: ∀(s:aA) w',s.length<=65536->bU w'->Calls Tryz.prog 31 #[bs s] w' (pS (iB s).1 (iB s).2 w')):
  Calls Tryz.prog 37 #[some P,k,lev, .agg #[kf,kt], .int .i64 (aS st.lines k).rf] w (rG YQ Pr w0 P txt sp (jW txt lv k kf kt st)):=by
 have wm:=trivial;exact p9
theorem rG.any {T:TypeId}{Pr:aJ}{w0:World}{P:Nat}{txt:aA}{sp:List (Nat×Nat)}{R:YR}{e:Ending}{w:World} (h:rG T Pr w0 P txt sp R e w):eT T Pr w0 P txt sp R e w:=by
 cases R with
 | ok n s1=>exact h
 | bad b er=>exact⟨⟨_,h.1⟩,h.2⟩
end Go.Proofs.YtfhjncbdgjlcoaaGreatDoor
