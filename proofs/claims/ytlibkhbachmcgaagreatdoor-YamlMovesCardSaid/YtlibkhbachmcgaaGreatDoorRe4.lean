import Derived.Test.YtlibkhbachmcgaaGreatDoorRe3
import Derived.Test.YtlibkhbachmcgaaGreatDoorRe1
import Derived.Maps.Own
import Derived.Maps.OwnOps
import Derived.Maps.Views
import Derived.Test.YtlibkhbachmcgaaGreatDoorProg
import Derived.Test.YtlibkhbachmcgaaGreatDoorRe2
import Derived.Lib.MapLaws
import Derived.Lib.TrimAscii
import Derived.Deep.RegionLaw
namespace Go.Proofs.YtlibkhbachmcgaaGreatDoor
set_option linter.unusedSimpArgs false
set_option linter.unusedVariables false
open Go.Lib
def slT (txt:List UInt8) (s:Sp):Stp:=if s.2<s.1∨txt.length<s.2 then [] else(txt.take s.2).drop s.1
def textV (k:Nat) (s:Stp):Stp:=if k=2 then s else if k=3 then textL (parseL s).1 else if k=4 then(unqL s).1 else []
def keyV (txt:List UInt8) (ns:List NodeD) (k:Nat):Stp:=match ns[k]? with
 | some x=>(unqL (slT txt x.key)).1
 | none=> []
def nodeV (txt:List UInt8) (ns:List NodeD):Nat→Nat→VT
 | 0,_=> .mk 0 [] [] []
 | f+1,k=>match ns[k]? with
  | none=> .mk 0 [] [] []
  | some x=> .mk (x.kind:Int) (textV x.kind (slT txt (x.sf,x.st))) (if x.kind=6 then x.kids.map (keyV txt ns) else []) (x.kids.map (nodeV txt ns f))
def KidsOk (P:Nat→Nat→Prop):List Nat→Nat→Nat→Prop
 | [],a,hi=>a=hi
 | kid::l,a,hi=>kid=a∧ ∃m,P kid m∧KidsOk P l m hi
theorem KidsOk.snoc {P:Nat→Nat→Prop}{hi:Nat}: ∀ {l:List Nat}{a k:Nat},KidsOk P l a k→P k hi→KidsOk P (l++ [k]) a hi
 | [],a,k,h,hp=>by
  have e:a=k:=h
  exact⟨e.symm,hi,hp,rfl⟩
 | x::l,a,k,h,hp=>by
  obtain⟨h1,m,h2,h3⟩:=h
  exact⟨h1,m,h2,h3.snoc hp⟩
def TOk (ns:List NodeD):Nat→Nat→Nat→Prop
 | 0,_,_=>False
 | lv+1,k,hi=> ∃x,ns[k]?=some x∧KidsOk (TOk ns lv) x.kids (k+1) hi
theorem KidsOk.imp {P Q:Nat→Nat→Prop} (hi:Nat) (hlt: ∀k m,P k m→k<m): ∀ {l:List Nat}{a:Nat},KidsOk P l a hi→(∀k m,a≤k→m≤hi→P k m→Q k m)→KidsOk Q l a hi
 | [],a,h,_=>h
 | x::l,a,h,hq=>by
  obtain⟨rfl,m,h2,h3⟩:=h
  have hle: ∀ {l:List Nat}{a:Nat},KidsOk P l a hi→a≤hi:=by
   intro l
   induction l with
   | nil=>intro a h;exact Nat.le_of_eq h
   | cons y l ih=>
    intro a h
    obtain⟨rfl,m,h2,h3⟩:=h
    have:=ih h3
    have:=hlt _ _ h2
    omega
  have h4:=hlt _ _ h2
  exact⟨rfl,m,hq _ _ (Nat.le_refl _) (hle h3) h2,h3.imp hi hlt (fun k m' h5 h6 h7=>hq k m' (by omega) h6 h7)⟩
theorem TOk.lt {ns:List NodeD}: ∀ {lv k hi:Nat},TOk ns lv k hi→k<hi
 | lv+1,k,hi,h=>by
  obtain⟨x,hx,h2⟩:=h
  have: ∀(l:List Nat) (a:Nat),KidsOk (TOk ns lv) l a hi→a≤hi:=by
   intro l
   induction l with
   | nil=>intro a h;exact Nat.le_of_eq h
   | cons y l ih=>
    intro a h
    obtain⟨rfl,m,h2,h3⟩:=h
    have:=ih m h3
    have:=TOk.lt h2
    omega
  have:=this _ _ h2
  omega
theorem TOk.mono {ns ns':List NodeD}: ∀ {lv k hi:Nat},TOk ns lv k hi→(∀j y,k≤j→j<hi→ns[j]?=some y→ ∃y',ns'[j]?=some y'∧y'.kids=y.kids)→TOk ns' lv k hi
 | lv+1,k,hi,h,hs=>by
  have hlt:=h.lt
  obtain⟨x,hx,h2⟩:=h
  obtain⟨x',hx',hk⟩:=hs k x (Nat.le_refl _) hlt hx
  refine⟨x',hx',?_⟩
  rw[hk]
  exact h2.imp hi (fun _ _=>TOk.lt) (fun a m h3 h4 h5=>h5.mono (fun j y h6 h7=>hs j y (by omega) (by omega)))
def VT2 (lv:Nat) (V:VF):Prop:= ∀rest last nodes key r l ns,V rest last nodes key= .ok r l ns→TOk ns lv nodes.length ns.length
theorem kid_tok {txt:List UInt8}{V:VF}{lv:Nat} (hV:VT2 lv V) {obj:Bool}{had had':List (List UInt8)}{rest r:List Tok}{last l:Sp}{nodes ns:List NodeD} (h:kidM txt V obj had rest last nodes=(.ok r l ns,had')):TOk ns lv nodes.length ns.length:=by
 unfold kidM at h
 split at h
 ·injection h with h _
  exact hV _ _ _ _ _ _ _ h
 ·split at h
  ·injection h with h _;cases h
  ·split at h
   ·injection h with h _;cases h
   ·split at h
    ·injection h with h _;cases h
    ·split at h
     ·injection h with h _;cases h
     ·split at h
      ·injection h with h _;cases h
      ·injection h with h _
       exact hV _ _ _ _ _ _ _ h
theorem loop_tok {txt:List UInt8}{V:VF}{lv:Nat} (hV:VT2 lv V) (hE:Ext V) {closing:Nat}{obj:Bool}{pre:List NodeD}: ∀(f:Nat) {had:List (List UInt8)}{rest:List Tok}{last:Sp}{nodes:List NodeD}{r:List Tok}{l:Sp}{ns:List NodeD}{x:NodeD}{post:List NodeD},
  Mid pre x post nodes→KidsOk (TOk nodes lv) x.kids (pre.length+1) nodes.length→loopM txt V closing obj pre.length f had rest last nodes= .ok r l ns→ ∃x' post',Mid pre x' post' ns∧KidsOk (TOk ns lv) x'.kids (pre.length+1) ns.length
 | 0,_,_,_,_,_,_,_,_,_,_,_,h=>by cases h
 | f +1,had,rest,last,nodes,r,l,ns,x,post,hm,hK,h=>by
  unfold loopM at h
  split at h
  ·cases h
  ·rename_i r1 l1 ns1 had1 hk
   have ht:=kid_tok hV hk
   obtain⟨more,rfl,h2,h3,⟨kk,h4⟩,h5⟩:=kid_ext hE hk
   split at h
   ·cases h
   ·rename_i t r'
    have hm2:=hm.add h5 h2 nodes.length (last.2,t.sf)
    have hst: ∀j y,pre.length+1≤j→(nodes++more)[j]?=some y→ ∃y',(addKid pre.length nodes.length (last.2,t.sf) (nodes++more))[j]?=some y'∧y'.kids=y.kids:=by
     intro j y hj hy
     unfold addKid
     rw[modN_at,if_neg (by omega)]
     exact⟨y,hy,rfl⟩
    have hml:=mid_len hm
    have hK2:KidsOk (TOk (addKid pre.length nodes.length (last.2,t.sf) (nodes++more)) lv) (x.kids++ [nodes.length]) (pre.length+1) (addKid pre.length nodes.length (last.2,t.sf) (nodes++more)).length:=by
     have hlen:(addKid pre.length nodes.length (last.2,t.sf) (nodes++more)).length=(nodes++more).length:=modN_len _ _ _
     rw[hlen]
     refine KidsOk.snoc (hK.imp _ (fun _ _=>TOk.lt) (fun k m h6 h7 h8=>h8.mono (fun j y h9 h10 h11=>?_))) (ht.mono (fun j y h9 h10 h11=>hst j y (by omega) h11))
     exact hst j y (by omega) (by rw[List.getElem?_append_left (by omega)];exact h11)
    split at h
    ·injection h with e1 e2 e3
     subst e3
     exact⟨_,_,hm2,hK2⟩
    ·split at h
     ·exact loop_tok hV hE f hm2 hK2 h
     ·cases h
theorem kids_tok {txt:List UInt8}{V:VF}{lv:Nat} (hV:VT2 lv V) (hE:Ext V) {closing:Nat}{obj:Bool}{pre:List NodeD}{rest:List Tok}{last:Sp}{nodes:List NodeD}{r:List Tok}{l:Sp}{ns:List NodeD}{x:NodeD}{post:List NodeD}
  (hm:Mid pre x post nodes) (hK:KidsOk (TOk nodes lv) x.kids (pre.length+1) nodes.length) (h:kidsM txt V closing obj pre.length rest last nodes= .ok r l ns): ∃x' post',Mid pre x' post' ns∧KidsOk (TOk ns lv) x'.kids (pre.length+1) ns.length:=by
 unfold kidsM at h
 split at h
 ·exact loop_tok hV hE _ hm hK h
 ·split at h
  ·injection h with h1 h2 h3
   subst h3
   exact⟨x,post,hm,hK⟩
  ·exact loop_tok hV hE _ hm hK h
theorem value_tok (txt:List UInt8): ∀lv,VT2 lv (valueM txt lv)
 | 0=>fun rest last nodes key r l ns h=>by
  unfold valueM at h
  split at h<;>cases h
 | lv +1=>fun rest last nodes key r l ns h=>by
  have ih:=value_tok txt lv
  have ie:=value_ext txt lv
  cases rest with
  | nil=>
   unfold valueM at h
   rw[if_pos (show kindOfT (kindT [])=0 from rfl)] at h
   cases h
  | cons t q=>
   unfold valueM at h
   split at h
   ·cases h
   ·split at h
    ·cases h
    ·simp only[] at h
     obtain⟨ns',h1,rfl⟩:=endM_ok h
     have hm0:Mid nodes ⟨kindOfT t.kind,t.sf,t.st,key,[],[]⟩ [] (nodes++ [⟨kindOfT t.kind,t.sf,t.st,key,[],[]⟩]):=⟨rfl,Nat.le_refl _,Nat.le_refl _,fun y hy=>by cases hy⟩
     have hK0:KidsOk (TOk (nodes++ [(⟨kindOfT t.kind,t.sf,t.st,key,[],[]⟩:NodeD)]) lv) ([]:List Nat) (nodes.length+1) (nodes++ [(⟨kindOfT t.kind,t.sf,t.st,key,[],[]⟩:NodeD)]).length:=by
      show nodes.length+1=_
      rw[List.length_append,List.length_singleton]
     have fin: ∀ {x':NodeD}{post':List NodeD},Mid nodes x' post' ns'→KidsOk (TOk ns' lv) x'.kids (nodes.length+1) ns'.length→TOk (setTo nodes.length l.2 ns') (lv+1) nodes.length (setTo nodes.length l.2 ns').length:=by
      intro x' post' hm hk
      have hlen:(setTo nodes.length l.2 ns').length=ns'.length:=modN_len _ _ _
      have hxa:=mid_at hm
      refine⟨{ x' with st:=l.2 },?_,?_⟩
      ·unfold setTo
       rw[modN_at,if_pos rfl,hxa]
       rfl
      ·rw[hlen]
       refine hk.imp _ (fun _ _=>TOk.lt) (fun k m h6 h7 h8=>h8.mono (fun j y h9 h10 h11=>?_))
       refine⟨y,?_,rfl⟩
       unfold setTo
       rw[modN_at,if_neg (by omega)]
       exact h11
     split at h1
     ·obtain⟨x',post',i1,i2⟩:=kids_tok ih ie hm0 hK0 h1
      exact fin i1 i2
     ·split at h1
      ·obtain⟨x',post',i1,i2⟩:=kids_tok ih ie hm0 hK0 h1
       exact fin i1 i2
      ·injection h1 with h2 h3 h4
       subst h4
       exact fin hm0 hK0
theorem parse_tree {s:List UInt8}{ns:List NodeD}{n:Int} (h:parseJ s=(ns,n,0)):TOk ns 32 0 ns.length:=by
 obtain⟨hs,T,l,ns',hT,hv,hp⟩:=parse_ok (s:=s) (by rw[h])
 rw[h] at hp
 injection hp with e1 e2
 subst e1
 exact value_tok s 32 _ _ _ _ _ _ _ hv
theorem KidsOk.mem {P:Nat→Nat→Prop}{hi:Nat}: ∀ {l:List Nat}{a:Nat},KidsOk P l a hi→ ∀k∈l,∃m,P k m
 | [],_,_,k,hk=>by cases hk
 | x::l,a,h,k,hk=>by
  obtain⟨rfl,m,h2,h3⟩:=h
  rcases List.mem_cons.1 hk with rfl | hk
  ·exact⟨m,h2⟩
  ·exact h3.mem k hk
theorem TOk.kid {ns:List NodeD}{lv k hi:Nat} (h:TOk ns (lv+1) k hi) {x:NodeD} (hx:ns[k]?=some x) {q:Nat} (hq:q∈x.kids):(∃m,TOk ns lv q m)∧q<ns.length:=by
 obtain⟨x',hx',h2⟩:=h
 rw[hx] at hx'
 injection hx' with e
 subst e
 obtain⟨m,hm⟩:=h2.mem q hq
 refine⟨⟨m,hm⟩,?_⟩
 cases lv with
 | zero=>exact hm.elim
 | succ lv=>
  obtain⟨y,hy,_⟩:=hm
  exact(List.getElem?_eq_some_iff.1 hy).1
end Go.Proofs.YtlibkhbachmcgaaGreatDoor
namespace Go.Proofs.YtlibkhbachmcgaaGreatDoor
set_option linter.unusedSimpArgs false
set_option linter.unusedVariables false
open Go.RowKit Go.Maps Go.WideMaps
def hadD:List (List UInt8)→DataW Unit
 | []=> .map []
 | k::l=>(hadD l).put (.string k) (.lit (.bool true))
theorem hadD_map: ∀l,IsMap (hadD l)
 | []=>isMap_empty
 | k::l=>(hadD_map l).put _ _
theorem hadD_at (k:List UInt8): ∀l,(hadD l).atKey (.string k) (.lit (.bool false))= .lit (.bool (decide (k∈l)))
 | []=>rfl
 | x::l=>by
  unfold hadD
  by_cases h:k=x
  ·subst h
   rw[atKey_put_same (hadD_map l) (show WideAt.IsKeyLit (.string k) from trivial),decide_eq_true List.mem_cons_self]
  ·rw[atKey_put_other (fun e=>h (by injection e)),hadD_at k l]
   congr 2
   rw[decide_eq_decide]
   exact⟨fun h1=>List.mem_cons_of_mem _ h1,fun h1=>(List.mem_cons.1 h1).resolve_left h⟩
def HM (b:Nat) (had:List (List UInt8)) (w:World):Prop:=w.ownsMap Tryz.prog 9 (plainElem Tryz.prog 4) b had.length (hadD had)
theorem lawK:Keyed Tryz.prog 9:=string_keyed Tryz.underlying9
theorem zeroB (w:World):(zeroValue 4).run Tryz.prog w= .ok (.bool false) w:=by kernel_rfl
theorem HM.look {b:Nat}{had:List (List UInt8)}{w:World} (h:HM b had w) (k:List UInt8) (hk:k.length≤1073741824):(Instr.lookup 138 (.map (some b)) (.string (bs k)) false).run Tryz.prog w= .ok (.bool (decide (k∈had))) w:=by
 have hkey:keyOf Tryz.prog 9 (.string (bs k))=some (.string k):=by
  have:=keyOf_string_mk (P:=Tryz.prog) Tryz.underlying9 (s:=bs k) (by rw[bs_size];unfold maxLen;omega)
  rw[bs_data] at this
  exact this
 obtain⟨v,ps,hrun,hv⟩:=World.ownsMap.lookup h lawK Tryz.underlying138 (zeroB w) (plainElem_bool Tryz.underlying4 false) hkey
 rw[hadD_at] at hv
 have hvv:v= .bool (decide (k∈had)):=by
  unfold plainElem at hv
  rw[show Tryz.prog.underlying 4=some .bool from Tryz.underlying4] at hv
  cases v<;>simp at hv
  rw[hv.1]
 rw[hrun,hvv]
theorem HM.lt {b:Nat}{had:List (List UInt8)}{w:World} (h:HM b had w):b<w.heap.size:=World.ownsMap.lt h
theorem HM.obj {b:Nat}{had:List (List UInt8)}{w:World} (h:HM b had w): ∃es c,w.heap[b]?=some (.map es c):=by
 obtain⟨es,c,h1,_⟩:=h
 exact⟨es,c,h1⟩
theorem HM.same {b:Nat}{had:List (List UInt8)}{w w':World} (h:HM b had w) (hs:w'.heap[b]?=w.heap[b]?):HM b had w':=by
 obtain⟨es,c,h1,h2,h3,h4⟩:=h
 exact⟨es,c,hs.trans h1,h2,h3,h4⟩
end Go.Proofs.YtlibkhbachmcgaaGreatDoor
namespace Go.Proofs.YtlibkhbachmcgaaGreatDoor
set_option linter.unusedSimpArgs false
set_option linter.unusedVariables false
open Go.RowKit
open Go.Lib hiding intOf
set_option maxHeartbeats 1000000 in
theorem valid_any (s:ByteArray) (w:World) (hs:s.size≤4611686018427387904) (hT:Tabs w):
  Calls Tryz.prog 47 #[.string s] w fun e w'=>e= .returned (.tuple #[.int .i64 (validRes s).1, .bool (validRes s).2])∧Below w.heap.size w w':=by
 obtain⟨R,hR⟩: ∃R,validRes s=R:=⟨_,rfl⟩
 rw[hR]
 have HR:=hid hR;clear hR
 cases hv:Lib.validD s.data.toList with
 | true=>
  have h0:=validRes_yes hv
  have hc:=Tryz.utf8_ValidString s w (by omega) hT
  rw[hv] at hc;clear hv
  have HC:=hid hc;clear hc
  have H0:=hid h0;clear h0
  go_enter Tryz.func47,Tryz.ntmps47
  go_wp2_with (go_at_call 84;refine HC.out.mono ?_;rintro e w' ⟨rfl,hb⟩)
  go_ret2
  exact⟨ret_vb (HR.out.symm.trans H0.out),hb⟩
 | false=>
  have hc:=Tryz.utf8_ValidString s w (by omega) hT
  rw[hv] at hc;clear hv
  have HC:=hid hc;clear hc
  go_enter Tryz.func47,Tryz.ntmps47
  go_wp2_with (go_at_call 84;refine HC.out.mono ?_;rintro e w1 ⟨rfl,hb1⟩)
  have hT1:=hT.keep hb1
  have hz:=hb1.size
  have hw1:Hid (Below w.heap.size w w1):=hb1
  obtain⟨hc1,hf1⟩:=bcell hb1
  clear hb1 hc1 hf1
  go_loopw [4] (fun _ wr=> ∃pos:Nat,pos≤s.size∧Hid (Bads s pos)∧Hid (wr.heap[w1.heap.size]?=some (.stringIter s pos))∧Hid (Below w1.heap.size w1 wr)) (fun _ wr=>s.size-wr.iterPos w1.heap.size)
  case atStart=>exact⟨0,by omega,Bads.zero s,World.iter_heap w1 s 0,(Below.refl _ _).alloc (Nat.le_refl _) _⟩
  case round=>
   obtain⟨pos,hp,HB,HI,HW⟩:=hrel
   by_cases hlt:pos<s.size
   ·have hw:=widN_bd s pos hlt
    have hrb:=runeI_bd s pos
    have hnx: ∀ty,(Instr.next (.pointer (some ⟨w1.heap.size,0,none⟩)) true ty).run Tryz.prog wr= .ok (.tuple #[.bool true, .int .i64 pos, .int .i32 (runeI s pos)]) (wr.iterAt w1.heap.size s (pos+widN s pos)):=fun ty=>Lib.run_next_any_at wr _ s pos ty HI.out hlt
    have HI2:=hid (Lib.iterAt_heap wr w1.heap.size s pos (pos+widN s pos) HI.out)
    have HW2:=hid (Lib.below_iterAt HW.out (Nat.le_refl w1.heap.size) s (pos+widN s pos))
    have hT2:Tabs (wr.iterAt w1.heap.size s (pos+widN s pos)):=hT1.keep HW2.out
    have HM:=hid (iterPos_of HI.out)
    have HM2:=hid (iterPos_of HI2.out)
    by_cases hr:runeI s pos=65533
    ·by_cases h1:widN s pos=1
     ·have HG:=hid (goodB_no hr h1)
      have hrB:(runeI s pos !=65533)=false:=by rw[hr];rfl
      have h1B:(((widN s pos:Nat):Int)==1)=true:=by rw[h1];rfl
      clear hr h1
      go_wp2_with (go_at_call 85;refine(dec_at s pos _ hlt hT2).mono ?_;rintro e w' ⟨rfl,hb⟩)
      go_ret2
      exact⟨ret_vb (HR.out.symm.trans (HB.out.bad hlt HG.out)),hw1.out.trans ((HW2.out.trans (hb.mono HW2.out.size)).mono hw1.out.size)⟩
     ·have HG:=hid (goodB_wide h1)
      have hrB:(runeI s pos !=65533)=false:=by rw[hr];rfl
      have h1B:(((widN s pos:Nat):Int)==1)=false:=beq_eq_false_iff_ne.2 (by omega)
      clear hr h1
      go_wp2_with (go_at_call 85;refine(dec_at s pos _ hlt hT2).mono ?_;rintro e w' ⟨rfl,hb⟩)
      have HI3:=(hb.block w1.heap.size (cell_it HI2.out)).trans HI2.out
      go_roundw
      case rel=>exact⟨pos+widN s pos,by omega,HB.out.next hlt HG.out,HI3,HW2.out.trans (hb.mono HW2.out.size)⟩
      case measure=>rw[iterPos_of HI3,HM.out];omega
    ·have HG:=hid (goodB_rune hr)
     have hrB:(runeI s pos !=65533)=true:=bne_iff_ne.2 hr
     clear hr
     go_wp2
     go_roundw
     case rel=>exact⟨pos+widN s pos,by omega,HB.out.next hlt HG.out,HI2.out,HW2.out⟩
     case measure=>rw[HM2.out,HM.out];omega
   ·have hnx: ∀ty,(Instr.next (.pointer (some ⟨w1.heap.size,0,none⟩)) true ty).run Tryz.prog wr= .ok (.tuple #[.bool false]) wr:=fun ty=>Lib.run_next_end_at wr _ s pos ty HI.out hlt
    go_wp2
    go_ret2
    exact⟨ret_vb (HR.out.symm.trans (HB.out.fin (by omega))),hw1.out.trans (HW.out.mono hw1.out.size)⟩
theorem validRes_snd (s:ByteArray):(validRes s).2=validD s.data.toList:=by
 rw[validD_bad]
 unfold validRes
 cases badAt s<;>rfl
end Go.Proofs.YtlibkhbachmcgaaGreatDoor
