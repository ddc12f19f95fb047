import Derived.Test.YtlibkhbachmcgaaGreatDoorRe4
import Derived.Test.YtlibkhbachmcgaaGreatDoorRe7
import Derived.Test.YtlibkhbachmcgaaGreatDoorRe11
import Derived.Test.YtlibkhbachmcgaaGreatDoorRe13
import Derived.Test.YtlibkhbachmcgaaGreatDoorRe5
import Derived.Deep.RegionHeld3
import Derived.Deep.RegionLaw
import Derived.Deep.DeepCutAuto
set_option maxRecDepth 100000
set_option maxHeartbeats 4000000
namespace Go.Proofs.YtlibkhbachmcgaaGreatDoor
set_option linter.unusedSimpArgs false
set_option linter.unusedVariables false
open Go.RowKit Go.Maps Go.WideMaps
open Go.Lib hiding intOf
def AVar (w:World):Prop:=YVar w∧SVar w
theorem AVar.keep {w w':World} (h:AVar w) (hb:Below w.heap.size w w'):AVar w':=⟨h.1.keep hb,h.2.keep hb⟩
theorem AVar.tabs {w:World} (h:AVar w):Tabs w:=h.1.1.1
theorem slB (txt:Stp) (a b:Nat):sliceB (bs txt) (a:Int) (b:Int)=bs (slT txt (a,b)):=by
 unfold sliceB slT
 simp only[]
 have sl:=bs_size txt
 by_cases h:b<a∨txt.length<b
 ·rw[if_pos h,if_pos (by rcases h with h | h;exact .inr (.inl (by omega));exact .inr (.inr (by omega)))]
  rfl
 ·rw[if_neg h,if_neg (by omega),Int.toNat_natCast,Int.toNat_natCast,bs_extract,bs_data,List.drop_take]
theorem slT_len (txt:Stp) (s:Sp):(slT txt s).length≤txt.length:=by
 unfold slT
 split
 ·exact Nat.zero_le _
 ·rw[List.length_drop,List.length_take];omega
theorem parse_dig2 (s:Stp):(parseL s).1.dig.length≤1000:=by
 by_cases he:(parseL s).2=0
 ·exact parse_dig s he
 ·unfold parseL at he ⊢
  cases hl:litOf s with
  | none=>exact Nat.zero_le _
  | some x=>
   rw[hl] at he
   simp only[] at he ⊢
   obtain⟨q,hq⟩: ∃q,parseLit x=q:=⟨_,rfl⟩
   rw[hq] at he ⊢
   unfold parseLit at hq
   simp only[] at hq
   (repeat' split at hq)<;>subst hq<;>first | exact Nat.zero_le _ | exact absurd rfl he
abbrev KyS (W:World) (D:Nat) (txt:ByteArray) (p:Option Addr) (n c g k:Nat) (k1 k2:Int) (w:World):Prop:=
 (w.cell? ⟨D,0,none⟩=some (.string txt)∧w.cell? ⟨D,1,none⟩=some (.slice p n c)∧w.cell? ⟨g,k*7+3,none⟩=some (.int .i64 k1)∧w.cell? ⟨g,k*7+4,none⟩=some (.int .i64 k2))∧Hid (Below W.heap.size W w)
section
variable {W w w2:World}{D:Nat}{txt:ByteArray}{p:Option Addr}{n c g k:Nat}{k1 k2:Int}
theorem KyS.bel (h:KyS W D txt p n c g k k1 k2 w):Below W.heap.size W w:=h.2.out
theorem KyS.step (h:KyS W D txt p n c g k k1 k2 w) (hb:Below w.heap.size w w2):KyS W D txt p n c g k k1 k2 w2:=by
 obtain⟨⟨h0,h1,h2,h3⟩,h8⟩:=h
 exact⟨⟨cell_keepT h0 hb,cell_keepT h1 hb,cell_keepT h2 hb,cell_keepT h3 hb⟩,hid (below_of_new h8.out hb)⟩
theorem KyS.drew (h:KyS W D txt p n c g k k1 k2 w):KyS W D txt p n c g k k1 k2 w.drew:=h.step (Below.refl _ _).drew
end
theorem jkey_any (txt:Stp) (ns:List NodeD) (p:Option Addr) (c k:Nat) (x:NodeD) (w:World) (hx:ns[k]?=some x) (hn:NodesR w p ns) (hN:ns.length≤65536) (hs:txt.length≤1073741824) (hV:AVar w):
  Calls Tryz.prog 198 #[.agg #[.string (bs txt), .slice p ns.length c], .int .i64 (k:Int)] w fun e w'=>e= .returned (.string (bs (keyV txt ns k)))∧Below w.heap.size w w':=by
 obtain⟨g,rfl,kv,pv,n0,n1,n2,n3,n4,n5,n6,_,_⟩:=hn k x hx
 have hk:=(List.getElem?_eq_some_iff.1 hx).1
 obtain⟨D,hD⟩: ∃D,w.heap.size=D:=⟨_,rfl⟩
 obtain⟨W1,hW1⟩: ∃W,w.alloc (.cells #[.string (bs txt), .slice (some ⟨g,0,none⟩) ns.length c] 146)=W:=⟨_,rfl⟩
 have HB1:Hid (Below w.heap.size w W1):=hid (by rw[←hW1];exact below_alloc1 _ _)
 have HDC:Hid (DocC W1 D (bs txt) (some ⟨g,0,none⟩) ns.length c):=hid (by rw[←hW1,←hD];exact DocC.new w _ _ _ _)
 have m3:=cell_keepT n3 HB1.out
 have m4:=cell_keepT n4 HB1.out
 have hkv:keyV txt ns k=(unqL (slT txt x.key)).1:=by unfold keyV;rw[hx]
 rw[hkv]
 have CS1:Hid (∀w',Calls Tryz.prog 197 #[.agg #[.string (bs txt), .slice (some ⟨g,0,none⟩) ns.length c], .agg #[.int .i64 (x.key.1:Int), .int .i64 (x.key.2:Int)]] w' fun e w2=>e= .returned (.string (bs (slT txt x.key)))∧Below w'.heap.size w' w2):=hid (fun w'=>by
  have:=jslice_any (bs txt) (.slice (some ⟨g,0,none⟩) ns.length c) rfl (x.key.1:Int) (x.key.2:Int) w'
  rw[slB] at this
  exact this)
 have hsl:=slT_len txt x.key
 have HV:=hid (hV.keep HB1.out)
 have CU:Hid (∀w',Below W1.heap.size W1 w'→Calls Tryz.prog 158 #[.string (bs (slT txt x.key))] w' fun e w2=>e=ReadE (unqL (slT txt x.key))∧Below w'.heap.size w' w2):=hid (fun w' hb=>unquote_any _ w' (by omega) (HV.out.keep hb).2 (HV.out.keep hb).tabs)
 unfold ReadE at CU
 obtain⟨⟨U,ua,ue⟩,hU⟩: ∃U,unqL (slT txt x.key)=U:=⟨_,rfl⟩
 rw[hU] at CU
 rw[hU]
 have hk0:(0:Int)≤(k:Int):=by omega
 have hk1:(k:Int)<(ns.length:Int):=by omega
 have c0:W1.cell? ⟨D,0,none⟩=some (.string (bs txt)):=by have:=HDC.out;unfold DocC at this;simp[World.cell?,this]
 have c1:W1.cell? ⟨D,1,none⟩=some (.slice (some ⟨g,0,none⟩) ns.length c):=by have:=HDC.out;unfold DocC at this;simp[World.cell?,this]
 have HS0:KyS W1 D (bs txt) (some ⟨g,0,none⟩) ns.length c g k (x.key.1:Int) (x.key.2:Int) W1:=⟨⟨c0,c1,m3,m4⟩,hid (Below.refl _ _)⟩
 clear hn n0 n1 n2 n3 n4 n5 n6 hV hU hkv hx hk
 go_enter Tryz.func198,Tryz.ntmps198
 go_upto_region 1 with fail
 clear hW1
 go_region_held3 (fun w'=>KyS W1 D (bs txt) (some ⟨g,0,none⟩) ns.length c g k (x.key.1:Int) (x.key.2:Int) w') ((first | exact KyS.drew (by assumption) | exact KyS.step (by assumption) (by assumption) | assumption))
  ((first
   | (go_at_call 197;(refine(CS1.out _).mono ?_);rintro e w5 ⟨rfl,hb5⟩)
   | (go_at_call 158;(refine(CU.out _ (KyS.bel (by assumption:KyS W1 D (bs txt) (some ⟨g,0,none⟩) ns.length c g k (x.key.1:Int) (x.key.2:Int) _))).mono ?_);rintro e w6 ⟨rfl,hb6⟩)))
 all_goals
  have HF:Hid (Below w.heap.size w w6):=hid (below_of_new HB1.out (KyS.bel (by assumption:KyS W1 D (bs txt) (some ⟨g,0,none⟩) ns.length c g k (x.key.1:Int) (x.key.2:Int) w6)))
  go_wp2_with fail
  go_ret
  exact⟨rfl,by first | exact HF.out | (rw[←hD];exact HF.out)⟩
theorem jtextk_any (kd:Nat) (s:Stp) (w:World) (hs:s.length≤1073741824) (hV:AVar w):
  Calls Tryz.prog 196 #[.int .i64 (kd:Int), .string (bs s)] w fun e w'=>e= .returned (.string (bs (textV kd s)))∧Below w.heap.size w w':=by
 unfold textV
 by_cases h2:kd=2
 ·subst h2
  rw[if_pos rfl]
  go_enter Tryz.func196,Tryz.ntmps196
  go_wp2_with fail
  go_ret
  exact⟨rfl,Below.refl _ _⟩
 have d2:((kd:Int)==2)=false:=beq_eq_false_iff_ne.2 (by omega)
 rw[if_neg h2]
 by_cases h3:kd=3
 ·subst h3
  rw[if_pos rfl]
  have CP:=hid (fun w=>parse_any s w (by omega))
  have hdl:=parse_dig2 s
  obtain⟨P,hP⟩: ∃P,parseL s=P:=⟨_,rfl⟩
  rw[hP] at CP hdl
  rw[hP]
  obtain⟨n,er⟩:=P
  simp only[] at hdl ⊢
  have HV:=hid hV
  have CT:Hid (∀w',Below w.heap.size w w'→Calls Tryz.prog 50 #[.agg #[.bool n.neg, .string (bs n.dig), .int .i64 n.exp]] w' fun e w2=>e= .returned (.string (bs (textL n)))∧Below w'.heap.size w' w2):=hid (fun w' hb=>text_any n w' (by omega) (HV.out.keep hb).1.1.2)
  clear hV hP hdl h2
  go_enter Tryz.func196,Tryz.ntmps196
  go_wp2_with fail
  refine(CP.out _).mono ?_
  unfold Parsed numV
  rintro e w1 ⟨rfl,hb1⟩
  have hb2:Below w.heap.size w (w1.alloc (.cells #[.bool n.neg, .string (bs n.dig), .int .i64 n.exp] 88)):=below_of_new hb1 (below_alloc1 _ _)
  have HB2:=hid hb2
  clear hb1 hb2
  go_wp2_with fail
  refine(CT.out _ HB2.out).mono ?_
  rintro e w3 ⟨rfl,hb3⟩
  have HB3:=hid (below_of_new HB2.out hb3)
  clear hb3
  go_wp2_with fail
  go_ret
  exact⟨rfl,HB3.out⟩
 have d3:((kd:Int)==3)=false:=beq_eq_false_iff_ne.2 (by omega)
 rw[if_neg h3]
 by_cases h4:kd=4
 ·subst h4
  rw[if_pos rfl]
  have CU:=hid (unquote_any s w (by omega) hV.2 hV.tabs)
  unfold ReadE at CU
  obtain⟨⟨U,ua,ue⟩,hU⟩: ∃U,unqL s=U:=⟨_,rfl⟩
  rw[hU] at CU
  rw[hU]
  clear hU hV
  go_enter Tryz.func196,Tryz.ntmps196
  go_wp2_with fail
  refine CU.out.mono ?_
  rintro e w1 ⟨rfl,hb1⟩
  have HB1:=hid hb1
  clear hb1
  go_wp2_with fail
  go_ret
  exact⟨rfl,HB1.out⟩
 have d4:((kd:Int)==4)=false:=beq_eq_false_iff_ne.2 (by omega)
 rw[if_neg h4]
 go_enter Tryz.func196,Tryz.ntmps196
 go_wp2_with fail
 go_ret
 exact⟨rfl,Below.refl _ _⟩
def PhN (W W0:World) (kd:Int) (sl tx:Stp):Nat→Value→World→Prop
 | 0,_,w'=>Below W0.heap.size W0 w'
 | 1,c,w'=>c= .string (bs sl)∧Below W0.heap.size W0 w'
 | 2,c,w'=>c= .string (bs tx)∧Below W0.heap.size W0 w'
 | 3,c,w'=>c= .agg #[.int .i64 kd, .string (bs tx), .slice none 0 0, .slice none 0 0]∧Below W0.heap.size W0 w'
 | _,c,w'=> ∃Y,c= .pointer (some ⟨Y,0,none⟩)∧CS W Y kd tx [] [] (.slice none 0 0) (.slice none 0 0) w'
theorem PhN.keep {W W0:World}{kd:Int}{sl tx:Stp}{k:Nat}{c:Value}{w' w2:World} (h:PhN W W0 kd sl tx k c w') (hb:Below w'.heap.size w' w2):PhN W W0 kd sl tx k c w2:=by
 match k,h with
 | 0,h=>exact below_of_new (show Below W0.heap.size W0 w' from h) hb
 | 1,h=>exact⟨h.1,below_of_new h.2 hb⟩
 | 2,h=>exact⟨h.1,below_of_new h.2 hb⟩
 | 3,h=>exact⟨h.1,below_of_new h.2 hb⟩
 | k+4,⟨Y,h1,h2⟩=>exact⟨Y,h1,h2.keep hb⟩
theorem kids_le {P:Nat→Nat→Prop} (hlt: ∀k m,P k m→k<m) {hi N:Nat}: ∀ {l:List Nat}{a:Nat},KidsOk P l a hi→(∀k∈l,k<N)→a≤N→a+l.length≤N
 | [],a,_,_,h=>h
 | y::l,a,h,hm,_=>by
  obtain⟨rfl,m,h2,h3⟩:=h
  have h4:=hlt _ _ h2
  have h5:=hm y List.mem_cons_self
  cases l with
  | nil=>simp only[List.length_singleton];omega
  | cons z l=>
   have h6:=hm z (List.mem_cons_of_mem _ List.mem_cons_self)
   have h7:z=m:=h3.1
   have:=kids_le hlt h3 (fun k hk=>hm k (List.mem_cons_of_mem _ hk)) (by omega)
   rw[List.length_cons]
   omega
theorem kids_len {ns:List NodeD}{lv k m:Nat}{x:NodeD} (hT:TOk ns (lv+1) k m) (hx:ns[k]?=some x) (hN:ns.length≤65536):x.kids.length≤65536:=by
 have hk:=(List.getElem?_eq_some_iff.1 hx).1
 have hm:=fun q (hq:q∈x.kids)=>(hT.kid hx hq).2
 obtain⟨x',hx',h2⟩:=hT
 rw[hx] at hx'
 injection hx' with e
 subst e
 have:=kids_le (fun _ _=>TOk.lt) h2 hm (by omega)
 omega
def ksV (txt:Stp) (ns:List NodeD) (kd:Nat) (l:List Nat):List Stp:=if kd=6 then l.map (keyV txt ns) else []
theorem ksV_nil (txt:Stp) (ns:List NodeD) (kd:Nat):ksV txt ns kd []= []:=by unfold ksV;split<;>rfl
def JNd (txt:Stp) (ns:List NodeD) (p:Option Addr) (c:Nat) (lv:Nat):Prop:= ∀(k m:Nat) (lev:Int) (w:World),TOk ns lv k m→Hid (lev=33-(lv:Int))→lv≤32→NodesR w p ns→AVar w→
 Calls Tryz.prog 160 #[.agg #[.string (bs txt), .slice p ns.length c], .int .i64 (k:Int), .int .i64 lev] w (NewE (nodeV txt ns lv k) w)
theorem node_box {w:World}{X:Nat}{cs:Array Value}{t:TypeId} (h:w.heap[X]?=some (.cells cs t (0,0))) (i:Nat):w.cell? ⟨X,i,none⟩=cs[i]?:=by
 simp[World.cell?,h]
theorem jnode_step (txt:Stp) (ns:List NodeD) (p:Option Addr) (c:Nat) (hN:ns.length≤65536) (hs:txt.length≤1073741824) (lv:Nat) (IH:JNd txt ns p c lv):JNd txt ns p c (lv+1):=by
 intro k m lev w hT hlev hlv hn hV
 obtain⟨x,hx⟩: ∃x,ns[k]?=some x:=by obtain⟨x,hx,_⟩:=hT;exact⟨x,hx⟩
 have HKD:=hid (fun q (hq:q∈x.kids)=>hT.kid hx hq)
 obtain⟨g,hp,kv,pv,n0,n1,n2,n3,n4,n5,n6,n7,n8⟩:=hn k x hx
 obtain⟨pq,cq,rfl,hq⟩:=n7
 obtain⟨pz,cz,rfl,_⟩:=n8
 have hk:=(List.getElem?_eq_some_iff.1 hx).1
 have hval:nodeV txt ns (lv+1) k= .mk (x.kind:Int) (textV x.kind (slT txt (x.sf,x.st))) (ksV txt ns x.kind x.kids) (x.kids.map (nodeV txt ns lv)):=by rw[nodeV,hx];rfl
 rw[hval]
 have hp0:=hp
 subst hp
 obtain⟨D,hD⟩: ∃D,w.heap.size=D:=⟨_,rfl⟩
 obtain⟨W1,hW1⟩: ∃W,w.alloc (.cells #[.string (bs txt), .slice (some ⟨g,0,none⟩) ns.length c] 146)=W:=⟨_,rfl⟩
 obtain⟨R,hR⟩: ∃R,W1.heap.size=R:=⟨_,rfl⟩
 obtain⟨W2,hW2⟩: ∃W,W1.alloc (.cells #[.int .i64 0, .string ⟨#[]⟩, .slice none 0 0, .slice none 0 0] 36)=W:=⟨_,rfl⟩
 obtain⟨X,hX⟩: ∃X,W2.heap.size=X:=⟨_,rfl⟩
 obtain⟨W3,hW3⟩: ∃W,W2.alloc (.cells #[.int .i64 (x.kind:Int), .int .i64 (x.sf:Int), .int .i64 (x.st:Int), .int .i64 (x.key.1:Int), .int .i64 (x.key.2:Int), .slice pq x.kids.length cq, .slice pz x.pcs.length cz] 192)=W:=⟨_,rfl⟩
 have hB1:Below w.heap.size w W1:=by rw[←hW1];exact below_alloc1 _ _
 have hB12:Below W1.heap.size W1 W2:=by rw[←hW2];exact below_alloc1 _ _
 have hB23:Below W2.heap.size W2 W3:=by rw[←hW3];exact below_alloc1 _ _
 have HB2:=hid (below_of_new hB1 hB12)
 have HB3:=hid (below_of_new HB2.out hB23)
 have hd0:W1.heap[D]?=some (.cells #[.string (bs txt), .slice (some ⟨g,0,none⟩) ns.length c] 146):=by rw[←hW1,←hD];exact heap_alloc_new w _
 have hdl:=cell_it hd0
 have HD3:Hid (W3.heap[D]?=some (.cells #[.string (bs txt), .slice (some ⟨g,0,none⟩) ns.length c] 146)):=hid ((hB23.block D (Nat.lt_of_lt_of_le hdl hB12.size)).trans ((hB12.block D hdl).trans hd0))
 have hr0:W2.heap[R]?=some (.cells #[.int .i64 0, .string (bs []), .slice none 0 0, .slice none 0 0] 36):=by rw[←hW2,←hR];exact heap_alloc_new W1 _
 have HR3:Hid (W3.heap[R]?=some (.cells #[.int .i64 0, .string (bs []), .slice none 0 0, .slice none 0 0] 36)):=hid ((hB23.block R (cell_it hr0)).trans hr0)
 have HX3:Hid (W3.heap[X]?=some (.cells #[.int .i64 (x.kind:Int), .int .i64 (x.sf:Int), .int .i64 (x.st:Int), .int .i64 (x.key.1:Int), .int .i64 (x.key.2:Int), .slice pq x.kids.length cq, .slice pz x.pcs.length cz] 192)):=hid (by rw[←hW3,←hX];exact heap_alloc_new W2 _)
 have hR3:R<W3.heap.size:=cell_it HR3.out
 have HQ:Hid (∀(w':World),Below W3.heap.size W3 w'→ ∀(j q:Nat),x.kids[j]?=some q→ ∃gk,pq=some ⟨gk,0,none⟩∧w'.cell? ⟨gk,j,none⟩=some (.int .i64 (q:Int))):=hid (fun w' hb j q hj=>by
  obtain⟨gk,e1,e2⟩:=hq j q hj
  exact⟨gk,e1,cell_keepT (cell_keepT e2 HB3.out) hb⟩)
 have HNR:Hid (∀w',Below W3.heap.size W3 w'→NodesR w' (some ⟨g,0,none⟩) ns):=hid (fun w' hb=>(hn.keep HB3.out).keep hb)
 have HV:Hid (∀w',Below W3.heap.size W3 w'→AVar w'):=hid (fun w' hb=>(hV.keep HB3.out).keep hb)
 have HND:Hid (∀w',Below W3.heap.size W3 w'→ ∀q∈x.kids,Calls Tryz.prog 160 #[.agg #[.string (bs txt), .slice (some ⟨g,0,none⟩) ns.length c], .int .i64 (q:Int), .int .i64 (lev+1)] w' (NewE (nodeV txt ns lv q) w')):=hid (fun w' hb q hq=>by
  obtain⟨⟨m',hm'⟩,_⟩:=HKD.out q hq
  exact IH q m' (lev+1) w' hm' (hid (by rw[hlev.out];omega)) (by omega) (HNR.out w' hb) (HV.out w' hb))
 have HKY:Hid (∀w',Below W3.heap.size W3 w'→ ∀q∈x.kids,Calls Tryz.prog 198 #[.agg #[.string (bs txt), .slice (some ⟨g,0,none⟩) ns.length c], .int .i64 (q:Int)] w' fun e w2=>e= .returned (.string (bs (keyV txt ns q)))∧Below w'.heap.size w' w2):=hid (fun w' hb q hq=>by
  obtain⟨_,hql⟩:=HKD.out q hq
  exact jkey_any txt ns _ c q _ w' (List.getElem?_eq_getElem hql) (HNR.out w' hb) hN hs (HV.out w' hb))
 obtain⟨sl,hsl⟩: ∃sl,slT txt (x.sf,x.st)=sl:=⟨_,rfl⟩
 have hsll:=slT_len txt (x.sf,x.st)
 rw[hsl] at hsll ⊢
 have CS1:Hid (∀w',Calls Tryz.prog 197 #[.agg #[.string (bs txt), .slice (some ⟨g,0,none⟩) ns.length c], .agg #[.int .i64 (x.sf:Int), .int .i64 (x.st:Int)]] w' fun e w2=>e= .returned (.string (bs sl))∧Below w'.heap.size w' w2):=hid (fun w'=>by
  have:=jslice_any (bs txt) (.slice (some ⟨g,0,none⟩) ns.length c) rfl (x.sf:Int) (x.st:Int) w'
  rw[slB,hsl] at this
  exact this)
 obtain⟨tx,htx⟩: ∃tx,textV x.kind sl=tx:=⟨_,rfl⟩
 rw[htx]
 have CT:Hid (∀w',Below W3.heap.size W3 w'→Calls Tryz.prog 196 #[.int .i64 (x.kind:Int), .string (bs sl)] w' fun e w2=>e= .returned (.string (bs tx))∧Below w'.heap.size w' w2):=hid (fun w' hb=>by
  have:=jtextk_any x.kind sl w' (by omega) (HV.out w' hb)
  rw[htx] at this
  exact this)
 have hk0:(0:Int)≤(k:Int):=by omega
 have hk1:(k:Int)<(ns.length:Int):=by omega
 have hl0:(-1:Int)≤lev∧lev≤32:=by have:=hlev.out;omega
 have hl1:decide ((32:Int)<lev)=false:=decide_eq_false (by omega)
 have hl2:IntKind.i64.wrap (lev+1)=lev+1:=IntWalk.i64_in _ (by omega)
 have hkl:x.kids.length≤65536:=kids_len hT hx hN
 have e0:W2.cell? ⟨g,k*7,none⟩=some (.int .i64 (x.kind:Int)):=cell_keepT n0 HB2.out
 have e1:W2.cell? ⟨g,k*7+1,none⟩=some (.int .i64 (x.sf:Int)):=cell_keepT n1 HB2.out
 have e2:W2.cell? ⟨g,k*7+2,none⟩=some (.int .i64 (x.st:Int)):=cell_keepT n2 HB2.out
 have e3:W2.cell? ⟨g,k*7+3,none⟩=some (.int .i64 (x.key.1:Int)):=cell_keepT n3 HB2.out
 have e4:W2.cell? ⟨g,k*7+4,none⟩=some (.int .i64 (x.key.2:Int)):=cell_keepT n4 HB2.out
 have e5:W2.cell? ⟨g,k*7+5,none⟩=some (.slice pq x.kids.length cq):=cell_keepT n5 HB2.out
 have e6:W2.cell? ⟨g,k*7+6,none⟩=some (.slice pz x.pcs.length cz):=cell_keepT n6 HB2.out
 have c1:W2.cell? ⟨D,1,none⟩=some (.slice (some ⟨g,0,none⟩) ns.length c):=by rw[node_box ((hB12.block D hdl).trans hd0) 1];rfl
 have hDR:D<R:=by rw[←hR,←hD,←hW1];simp
 obtain⟨kd,hkd⟩: ∃kd:Int,(x.kind:Int)=kd:=⟨_,rfl⟩
 have h6k:x.kind=6↔kd=6:=by omega
 have H6:=hid h6k
 rw[hkd] at HX3 hW3 CT e0 ⊢
 clear hn n0 n1 n2 n3 n4 n5 n6 hV hval hx hk hT hB1 hB12 hB23 hd0 hr0 hsl htx hp0 hq hdl hkd h6k IH
 go_enter Tryz.func160,Tryz.ntmps160
 go_upto_region 1 with fail
 clear hW1 hR
 go_upto_region 2 with fail
 obtain⟨W0,hW0⟩: ∃W,W3.drew=W:=⟨_,rfl⟩
 have hbW:Below W3.heap.size W3 W0:=by rw[←hW0];exact(Below.refl _ _).drew
 have HBW:=hid hbW
 have HXC:Hid (∀w',Below W3.heap.size W3 w'→(w'.cell? ⟨X,0,none⟩=some (.int .i64 kd)∧w'.cell? ⟨X,1,none⟩=some (.int .i64 (x.sf:Int))∧w'.cell? ⟨X,2,none⟩=some (.int .i64 (x.st:Int))∧w'.cell? ⟨X,5,none⟩=some (.slice pq x.kids.length cq))∧w'.cell? ⟨D,0,none⟩=some (.string (bs txt))∧w'.cell? ⟨D,1,none⟩=some (.slice (some ⟨g,0,none⟩) ns.length c)):=hid (fun w' hb=>by
  have hx:=(hb.block X (cell_it HX3.out)).trans HX3.out
  have hd:=(hb.block D (cell_it HD3.out)).trans HD3.out
  exact⟨⟨by rw[node_box hx];rfl,by rw[node_box hx];rfl,by rw[node_box hx];rfl,by rw[node_box hx];rfl⟩,by rw[node_box hd];rfl,by rw[node_box hd];rfl⟩)
 obtain⟨SA,hSA⟩: ∃S:World→Prop,(fun w'=>((w'.cell? ⟨X,0,none⟩=some (.int .i64 kd)∧w'.cell? ⟨X,1,none⟩=some (.int .i64 (x.sf:Int))∧w'.cell? ⟨X,2,none⟩=some (.int .i64 (x.st:Int))∧w'.cell? ⟨D,0,none⟩=some (.string (bs txt))∧w'.cell? ⟨D,1,none⟩=some (.slice (some ⟨g,0,none⟩) ns.length c))∧W0.heap.size≤w'.heap.size))=S:=⟨_,rfl⟩
 have HSA:Hid (∀w',Below W0.heap.size W0 w'→SA w'):=hid (fun w' hb=>by
  rw[←hSA]
  obtain⟨⟨a0,a1,a2,_⟩,a3,a4⟩:=HXC.out w' (below_of_new hbW hb)
  exact⟨⟨a0,a1,a2,a3,a4⟩,hb.size⟩)
 have HSK:Hid (∀w1 w2,SA w1→Below w1.heap.size w1 w2→SA w2):=hid (fun w1 w2 h1 hb=>by
  rw[←hSA] at h1 ⊢
  obtain⟨⟨a0,a1,a2,a3,a4⟩,a5⟩:=h1
  exact⟨⟨cell_keepT a0 hb,cell_keepT a1 hb,cell_keepT a2 hb,cell_keepT a3 hb,cell_keepT a4 hb⟩,Nat.le_trans a5 hb.size⟩)
 clear e0 e1 e2 e3 e4 e5 e6 c1
 have hfol:Tryz.prog.follows .mixedOrders=true:=by kernel_rfl
 refine wp_region_rcf hfol [16,17,18,19,20,21,22,23,24,25,8] [7,8,9,11] 10 (FbC W0) 74 rfl (by kernel_rfl) (by kernel_rfl) (by kernel_rfl) (fun iz=>match iz with | 0=> .pointer (some ⟨X,0,none⟩) | 1=> .int .i64 kd | 2=> .pointer (some ⟨X,0,none⟩) | 3=> .int .i64 kd | 4=> .agg #[.string (bs txt), .slice (some ⟨g,0,none⟩) ns.length c] | 5=> .pointer (some ⟨X,1,none⟩) | 6=> .agg #[.int .i64 (x.sf:Int), .int .i64 (x.st:Int)] | _=>undef) SA (PhN W3 W0 kd sl tx) (by rw[hW0];exact HSA.out _ (Below.refl _ _)) (by rw[hW0];exact Below.refl _ _) ?_ ?_
 ·intro d a w' iq o' ho hi hall hfr hF R' hR
  have hiN:iq<12:=(Array.getElem?_eq_some_iff.1 ho).1
  have q3:a.tmps[3]?.getD undef= .pointer (some ⟨D,0,none⟩):=by rw[←Array.getD_eq_getD_getElem?];exact hfr 3 (by decide)
  have q7:a.tmps[7]?.getD undef= .pointer (some ⟨X,0,none⟩):=by rw[←Array.getD_eq_getD_getElem?];exact hfr 7 (by decide)
  clear hfr
  have ha:=hall
  have hoo:=ho
  have hcs:iq=0∨iq=1∨iq=2∨iq=3∨iq=4∨iq=5∨iq=6∨iq=7∨iq=8∨iq=9∨iq=10∨iq=11:=by omega
  clear hiN
  rcases hcs with rfl | rfl | rfl | rfl | rfl | rfl | rfl | rfl | rfl | rfl | rfl | rfl<;>simp only[List.getElem?_toArray,List.getElem?_cons_zero,List.getElem?_cons_succ,Option.some.injEq] at ho<;>subst ho
  ·go_simp
   exact hR _ _ (hF.pure (by decide) hoo ha rfl (by decide) (by decide) (by decide) rfl)
  ·simp[Region.binds] at hall
   have c16:a.tmps[16]?.getD undef= .pointer (some ⟨X,0,none⟩):=by rw[←Array.getD_eq_getD_getElem?];exact hF.cl 0 (by decide) (by decide) (by decide) (by simp[hall])
   have hS0:=hF.early (f:=12) (i:=1) (by kernel_rfl) hi
   rw[←hSA] at hS0
   obtain⟨⟨s0,s1,s2,s3,s4⟩,_⟩:=hS0
   go_simp
   exact hR _ _ (hF.pure (by decide) hoo ha rfl (by decide) (by decide) (by decide) rfl)
  ·go_simp
   exact hR _ _ (hF.pure (by decide) hoo ha rfl (by decide) (by decide) (by decide) rfl)
  ·simp[Region.binds] at hall
   have c18:a.tmps[18]?.getD undef= .pointer (some ⟨X,0,none⟩):=by rw[←Array.getD_eq_getD_getElem?];exact hF.cl 2 (by decide) (by decide) (by decide) (by simp[hall])
   have hS0:=hF.early (f:=12) (i:=3) (by kernel_rfl) hi
   rw[←hSA] at hS0
   obtain⟨⟨s0,s1,s2,s3,s4⟩,_⟩:=hS0
   go_simp
   exact hR _ _ (hF.pure (by decide) hoo ha rfl (by decide) (by decide) (by decide) rfl)
  ·have hS0:=hF.early (f:=12) (i:=4) (by kernel_rfl) hi
   rw[←hSA] at hS0
   obtain⟨⟨s0,s1,s2,s3,s4⟩,_⟩:=hS0
   go_simp
   exact hR _ _ (hF.pure (by decide) hoo ha rfl (by decide) (by decide) (by decide) rfl)
  ·go_simp
   exact hR _ _ (hF.pure (by decide) hoo ha rfl (by decide) (by decide) (by decide) rfl)
  ·simp[Region.binds] at hall
   have c21:a.tmps[21]?.getD undef= .pointer (some ⟨X,1,none⟩):=by rw[←Array.getD_eq_getD_getElem?];exact hF.cl 5 (by decide) (by decide) (by decide) (by simp[hall])
   have hS0:=hF.early (f:=12) (i:=6) (by kernel_rfl) hi
   rw[←hSA] at hS0
   obtain⟨⟨s0,s1,s2,s3,s4⟩,_⟩:=hS0
   go_simp
   exact hR _ _ (hF.pure (by decide) hoo ha rfl (by decide) (by decide) (by decide) rfl)
  ·simp[Region.binds] at hall
   have c20:a.tmps[20]?.getD undef= .agg #[.string (bs txt), .slice (some ⟨g,0,none⟩) ns.length c]:=by rw[←Array.getD_eq_getD_getElem?];exact hF.cl 4 (by decide) (by decide) (by decide) (by simp[hall])
   have c22:a.tmps[22]?.getD undef= .agg #[.int .i64 (x.sf:Int), .int .i64 (x.st:Int)]:=by rw[←Array.getD_eq_getD_getElem?];exact hF.cl 6 (by decide) (by decide) (by decide) (by simp[hall])
   have hP0:=hF.at2 (j:=0) rfl hi (.inl rfl)
   have hA:Below W0.heap.size W0 w':=hP0
   go_simp
   go_at_call 197
   refine(CS1.out _).mono ?_
   rintro e w5 ⟨rfl,hb5⟩
   have hb6:=below_of_new hA hb5
   exact hR _ _ (hF.eff2 (by decide) (by decide) 0 hoo ha rfl hi (.inl rfl) rfl (by decide) (fun _ x hx=>FbC.keep hx hb5) (fun _=>HSA.out _ hb6) ⟨rfl,hb6⟩)
  ·simp[Region.binds] at hall
   have c19:a.tmps[19]?.getD undef= .int .i64 kd:=by rw[←Array.getD_eq_getD_getElem?];exact hF.cl 3 (by decide) (by decide) (by decide) (by simp[hall])
   have hpv:d 7=true:=by first | first | exact hall | exact hall.1 | exact hall.2 | exact hall.2.1 | exact hall.2.2 | exact hall.2.2.1 | exact hall.2.2.2 | (exact ha ⟨_,_⟩ (by simp) rfl)
   have hP0:=hF.at2 (j:=1) rfl hi (.inr ⟨7,rfl,hpv⟩)
   obtain⟨hc,hA⟩:=hP0
   have hc:a.tmps.getD 23 undef= .string (bs sl):=hc
   have c23:a.tmps[23]?.getD undef= .string (bs sl):=by rw[←Array.getD_eq_getD_getElem?];exact hc
   go_simp
   go_at_call 196
   refine(CT.out _ (below_of_new HBW.out hA)).mono ?_
   rintro e w5 ⟨rfl,hb5⟩
   have hb6:=below_of_new hA hb5
   exact hR _ _ (hF.eff2 (by decide) (by decide) 1 hoo ha rfl hi (.inr ⟨7,rfl,hpv⟩) rfl (by decide) (fun _ x hx=>FbC.keep hx hb5) (fun _=>HSA.out _ hb6) ⟨rfl,hb6⟩)
  ·simp[Region.binds] at hall
   have c17:a.tmps[17]?.getD undef= .int .i64 kd:=by rw[←Array.getD_eq_getD_getElem?];exact hF.cl 1 (by decide) (by decide) (by decide) (by simp[hall])
   have hpv:d 8=true:=by first | first | exact hall | exact hall.1 | exact hall.2 | exact hall.2.1 | exact hall.2.2 | exact hall.2.2.1 | exact hall.2.2.2 | (exact ha ⟨_,_⟩ (by simp) rfl)
   have hP0:=hF.at2 (j:=2) rfl hi (.inr ⟨8,rfl,hpv⟩)
   obtain⟨hc,hA⟩:=hP0
   have hc:a.tmps.getD 24 undef= .string (bs tx):=hc
   have c24:a.tmps[24]?.getD undef= .string (bs tx):=by rw[←Array.getD_eq_getD_getElem?];exact hc
   go_simp
   exact hR _ _ (hF.eff2 (by decide) (by decide) 2 hoo ha rfl hi (.inr ⟨8,rfl,hpv⟩) rfl (by decide) (fun _ x hx=>hx) (fun _=>HSA.out _ hA) ⟨rfl,hA⟩)
  ·have hA2:=below_alloc1 w' (.cells #[.int .i64 0, .string ⟨#[]⟩, .slice none 0 0, .slice none 0 0] 36)
   have hsz:=hF.st (hF.lastNot (f:=12) (i:=10) (by kernel_rfl) hi)
   rw[←hSA] at hsz
   have hFb:=FbC.new (W0:=W0) (w':=w') hsz.2
   clear hsz
   go_simp
   exact hR _ _ (hF.free (by decide) hoo ha rfl (by decide) rfl (by decide) (by decide) (by decide) (hF.lastNot (f:=12) (i:=10) (by kernel_rfl) hi) (fun hs=>HSK.out _ _ hs hA2) (fun k c hp=>PhN.keep hp hA2) hFb)
  ·simp[Region.binds] at hall
   have hpv:d 9=true:=by first | first | exact hall | exact hall.1 | exact hall.2 | exact hall.2.1 | exact hall.2.2 | exact hall.2.2.1 | exact hall.2.2.2 | (exact ha ⟨_,_⟩ (by simp) rfl)
   have hP0:=hF.at2 (j:=3) rfl hi (.inr ⟨9,rfl,hpv⟩)
   obtain⟨h13,hA⟩:=hP0
   have h13:a.tmps.getD 25 undef= .agg #[.int .i64 kd, .string (bs tx), .slice none 0 0, .slice none 0 0]:=h13
   have c25:a.tmps[25]?.getD undef= .agg #[.int .i64 kd, .string (bs tx), .slice none 0 0, .slice none 0 0]:=by rw[←Array.getD_eq_getD_getElem?];exact h13
   obtain⟨Y,hY,hYW,hYb⟩:=hF.fb hi (by simp[hall])
   have hY:a.tmps.getD 8 undef= .pointer (some ⟨Y,0,none⟩):=hY
   have c8:a.tmps[8]?.getD undef= .pointer (some ⟨Y,0,none⟩):=by rw[←Array.getD_eq_getD_getElem?];exact hY
   obtain⟨y0,y1,y2,y3,g0,g1,g2,g3⟩:=box4 hYb
   go_simp
   exact hR undef _ (hF.eff2 (by decide) (by decide) 3 hoo ha rfl hi (.inr ⟨9,rfl,hpv⟩) rfl (by decide) (fun h=>absurd rfl h) (fun h=>absurd rfl h) ⟨Y,hY,CS.ofStore HBW.out hA (OwnsS.nil _ _) hYW hYb⟩)
 intro v wz hcl hP4
 obtain⟨Y,hY,hC⟩:=hP4
 have hY:v 8= .pointer (some ⟨Y,0,none⟩):=hY
 have HC:=hid hC
 simp only[fillT,List.setIfInBounds_toArray,List.set_cons_succ,List.set_cons_zero,hY]
 clear hcl hC HSK HSA hSA hW0 hbW HBW SA W0 CS1 CT
 obtain⟨⟨x0,x1,x2,x5⟩,z0,z1⟩:=HXC.out wz HC.out.bel
 go_wp2_with fail
 clear x0 x1 x2 x5 z0 z1 hY
 go_loopw [29,9,10] (fun s29 s9 s10 wr=> ∃(i:Nat) (kv ov:Value),s29= .int .i64 (i:Int)∧i≤x.kids.length∧Hid (CS W3 Y kd tx (ksV txt ns x.kind (x.kids.take i)) ((x.kids.take i).map (nodeV txt ns lv)) kv ov wr)) (fun s29 _ _ _=>x.kids.length-(RowKit.intOf s29).toNat)
 case atStart=>exact⟨0, .slice none 0 0, .slice none 0 0,rfl,Nat.zero_le _,by rw[List.take_zero,ksV_nil];first | exact HC | exact hid (HC.out.keep (Below.refl _ _).drew)⟩
 case round=>
  obtain⟨i,kv,ov,rfl,hi,HC⟩:=hrel
  obtain⟨⟨x0,x1,x2,x5⟩,z0,z1⟩:=HXC.out wr HC.out.bel
  by_cases hil:i<x.kids.length
  ·obtain⟨q,hq⟩: ∃q,x.kids[i]?=some q:=⟨_,List.getElem?_eq_getElem hil⟩
   have hqm:=List.mem_of_getElem? hq
   obtain⟨gk,rfl,kc⟩:=HQ.out wr HC.out.bel i q hq
   obtain⟨_,hqn⟩:=HKD.out q hqm
   have hi1:(i:Int)<(x.kids.length:Int):=by omega
   have dk:decide ((i:Int)<(x.kids.length:Int))=true:=decide_eq_true hi1
   have hi0:(0:Int)≤(i:Int):=by omega
   have dq1:decide ((q:Int)<0)=false:=decide_eq_false (by omega)
   have dq2:decide ((ns.length:Int)≤(q:Int))=false:=decide_eq_false (by omega)
   have dq3:decide (ns.length≤q)=false:=decide_eq_false (by omega)
   have HTK:=hid (take_one hq)
   obtain⟨pa,ca,hkv⟩:=HC.out.keys.slice
   obtain⟨po,co,hov⟩:=HC.out.its.slice
   have hlt:((x.kids.take i).map (nodeV txt ns lv)).length=i:=by rw[List.length_map,List.length_take];omega
   rw[hlt] at hov
   obtain⟨nk,hnk⟩: ∃nk,(ksV txt ns x.kind (x.kids.take i)).length=nk:=⟨_,rfl⟩
   have hnk1:nk≤65536:=by
    rw[←hnk]
    unfold ksV
    split
    ·rw[List.length_map,List.length_take];omega
    ·exact Nat.zero_le _
   rw[hnk] at hkv
   subst hkv hov
   have HNK:=hid hnk
   have HQM:=hid hqm
   clear hq hqm hnk hlt
   go_upto_if 53 with fail
   go_cut [54,55,56,57,58,59,60,61] (fun s54 s55 s56 s57 s58 s59 s60 s61 wx=> ∃kv',Hid (CS W3 Y kd tx (ksV txt ns x.kind (x.kids.take (i+1))) ((x.kids.take i).map (nodeV txt ns lv)) kv' (.slice po i co) wx))
   case first=>
    by_cases h6:kd=6
    rotate_left
    ·have d6:(kd==6)=false:=beq_eq_false_iff_ne.2 h6
     have hx6: ¬x.kind=6:=fun e=>h6 (H6.out.1 e)
     have HC1:Hid (CS W3 Y kd tx (ksV txt ns x.kind (x.kids.take (i+1))) ((x.kids.take i).map (nodeV txt ns lv)) (.slice pa nk ca) (.slice po i co) wr):=hid (by
      have:=HC.out
      unfold ksV at this ⊢
      rw[if_neg hx6] at this ⊢
      exact this)
     clear h6 hx6
     go_wp2_with fail
     go_meet
     exact⟨_,by first | exact HC1 | exact hid (HC1.out.keep (Below.refl _ _).drew)⟩
    ·have d6:(kd==6)=true:=by rw[h6];rfl
     have hx6:x.kind=6:=H6.out.2 h6
     obtain⟨W0,hW0⟩: ∃W,wr.drew=W:=⟨_,rfl⟩
     have hb0r:Below wr.heap.size wr W0:=by rw[←hW0];exact(Below.refl _ _).drew
     have HC0':Hid (CS W3 Y kd tx ((x.kids.take i).map (keyV txt ns)) ((x.kids.take i).map (nodeV txt ns lv)) (.slice pa nk ca) (.slice po i co) W0):=hid (by
      have:=HC.out.keep hb0r
      unfold ksV at this
      rw[if_pos hx6] at this
      exact this)
     have hlen2:((x.kids.take i).map (keyV txt ns)++ [keyV txt ns q]).length=nk+1:=by
      have:=HNK.out
      unfold ksV at this
      rw[if_pos hx6] at this
      rw[List.length_append,this,List.length_singleton]
     have hlk:((x.kids.take i).map (keyV txt ns)).length≤4294967295:=by rw[List.length_map,List.length_take];omega
     have HX6:=hid hx6
     have HL2:=hid (And.intro hlen2 hlk)
     clear h6 hx6 hlen2 hlk hb0r
     go_upto_region 10 with fail
     obtain⟨SA,hSA⟩: ∃S:World→Prop,(fun w'=>(w'.cell? ⟨Y,2,none⟩=some (.slice pa nk ca)∧w'.frozen? ⟨Y,2,none⟩=false)∧w'.cell? ⟨D,0,none⟩=some (.string (bs txt))∧w'.cell? ⟨D,1,none⟩=some (.slice (some ⟨g,0,none⟩) ns.length c))=S:=⟨_,rfl⟩
     have HSA:Hid (∀w',Below W0.heap.size W0 w'→SA w'):=hid (fun w' hb=>by
      rw[←hSA]
      obtain⟨_,a3,a4⟩:=HXC.out w' (below_of_new HC0'.out.bel hb)
      have q:=(HC0'.out.keep hb).cells
      exact⟨⟨q.2.2.1,q.2.2.2.2.2.2.1⟩,a3,a4⟩)
     have HSG:Hid (∀w' c',PhK W3 W0 Y (keyV txt ns q) ((x.kids.take i).map (keyV txt ns)) (.slice pa nk ca) 3 c' w'→SA w'):=hid (fun w' c' hp=>by
      rw[←hSA]
      obtain⟨q1,q2,q3,q4,q5⟩:=hp
      have hbox:=HC0'.out.box
      have hYl:=cell_it hbox
      have e1:w'.heap[Y]?=W0.heap[Y]?:=q4 Y hYl HC0'.out.off
      have e2:=e1.trans hbox
      have e3: ∀o',w'.cell? ⟨D,o',none⟩=W0.cell? ⟨D,o',none⟩:=fun o'=>q2.cell (p:=⟨D,o',none⟩) (cell_it HD3.out)
      obtain⟨_,a3,a4⟩:=HXC.out W0 HC0'.out.bel
      obtain⟨y0,y1,y2,y3,y4,y5,y6,y7⟩:=box4 e2
      exact⟨⟨y2,y6⟩,by rw[e3];exact a3,by rw[e3];exact a4⟩)
     clear x0 x1 x2 x5 z0 z1 kc
     have hfol:Tryz.prog.follows .mixedOrders=true:=by kernel_rfl
     refine wp_region_rcf hfol [54,55,56,57,58,59,60,61] [4,5,6,8] 1000000 (fun _ _=>True) 74 rfl (by kernel_rfl) (by kernel_rfl) (by kernel_rfl) (fun iz=>match iz with | 0=> .pointer (some ⟨Y,2,none⟩) | 1=> .slice pa nk ca | 2=> .agg #[.string (bs txt), .slice (some ⟨g,0,none⟩) ns.length c] | 3=> .int .i64 (q:Int) | 7=> .pointer (some ⟨Y,2,none⟩) | _=>undef) SA (PhK W3 W0 Y (keyV txt ns q) ((x.kids.take i).map (keyV txt ns)) (.slice pa nk ca)) (by rw[hW0];exact HSA.out _ (Below.refl _ _)) (by rw[hW0];exact Below.refl _ _) ?_ ?_
     ·intro d a w' iq o' ho hi hall hfr hF R' hR
      have hiN:iq<9:=(Array.getElem?_eq_some_iff.1 ho).1
      have q3:a.tmps[3]?.getD undef= .pointer (some ⟨D,0,none⟩):=by rw[←Array.getD_eq_getD_getElem?];exact hfr 3 (by decide)
      have q8:a.tmps[8]?.getD undef= .pointer (some ⟨Y,0,none⟩):=by rw[←Array.getD_eq_getD_getElem?];exact hfr 8 (by decide)
      have q10:a.tmps[10]?.getD undef= .int .i64 (q:Int):=by rw[←Array.getD_eq_getD_getElem?];exact hfr 10 (by decide)
      clear hfr
      have ha:=hall
      have hoo:=ho
      have hcs:iq=0∨iq=1∨iq=2∨iq=3∨iq=4∨iq=5∨iq=6∨iq=7∨iq=8:=by omega
      clear hiN
      rcases hcs with rfl | rfl | rfl | rfl | rfl | rfl | rfl | rfl | rfl<;>simp only[List.getElem?_toArray,List.getElem?_cons_zero,List.getElem?_cons_succ,Option.some.injEq] at ho<;>subst ho
      ·go_simp
       exact hR _ _ (hF.pure (by decide) hoo ha rfl (by decide) (by decide) (by decide) rfl)
      ·simp[Region.binds] at hall
       have c54:a.tmps[54]?.getD undef= .pointer (some ⟨Y,2,none⟩):=by rw[←Array.getD_eq_getD_getElem?];exact hF.cl 0 (by decide) (by decide) (by decide) (by simp[hall])
       have hS0:=hF.early (f:=9) (i:=1) (by kernel_rfl) hi
       rw[←hSA] at hS0
       obtain⟨⟨x3,x3f⟩,s3,s4⟩:=hS0
       go_simp
       exact hR _ _ (hF.pure (by decide) hoo ha rfl (by decide) (by decide) (by decide) rfl)
      ·have hS0:=hF.early (f:=9) (i:=2) (by kernel_rfl) hi
       rw[←hSA] at hS0
       obtain⟨⟨x3,x3f⟩,s3,s4⟩:=hS0
       go_simp
       exact hR _ _ (hF.pure (by decide) hoo ha rfl (by decide) (by decide) (by decide) rfl)
      ·go_simp
       exact hR _ _ (hF.pure (by decide) hoo ha rfl (by decide) (by decide) (by decide) rfl)
      ·simp[Region.binds] at hall
       have c56:a.tmps[56]?.getD undef= .agg #[.string (bs txt), .slice (some ⟨g,0,none⟩) ns.length c]:=by rw[←Array.getD_eq_getD_getElem?];exact hF.cl 2 (by decide) (by decide) (by decide) (by simp[hall])
       have c57:a.tmps[57]?.getD undef= .int .i64 (q:Int):=by rw[←Array.getD_eq_getD_getElem?];exact hF.cl 3 (by decide) (by decide) (by decide) (by simp[hall])
       have hP0:=hF.at2 (j:=0) rfl hi (.inl rfl)
       have hA:Below W0.heap.size W0 w':=hP0
       go_simp
       go_at_call 198
       refine(HKY.out _ (below_of_new HC0'.out.bel hA) q HQM.out).mono ?_
       rintro e w5 ⟨rfl,hb5⟩
       have hb6:=below_of_new hA hb5
       exact hR _ _ (hF.eff2 (by decide) (by decide) 0 hoo ha rfl hi (.inl rfl) rfl (by decide) (fun _ _ _=>trivial) (fun _=>HSA.out _ hb6) ⟨rfl,hb6⟩)
      ·simp[Region.binds] at hall
       have hpv:d 4=true:=by first | first | exact hall | exact hall.1 | exact hall.2 | exact hall.2.1 | exact hall.2.2 | exact hall.2.2.1 | exact hall.2.2.2 | (exact ha ⟨_,_⟩ (by simp) rfl)
       have hP0:=hF.at2 (j:=1) rfl hi (.inr ⟨4,rfl,hpv⟩)
       obtain⟨hc,hA⟩:=hP0
       have hc:a.tmps.getD 58 undef= .string (bs (keyV txt ns q)):=hc
       have c58:a.tmps[58]?.getD undef= .string (bs (keyV txt ns q)):=by rw[←Array.getD_eq_getD_getElem?];exact hc
       have hb6:=fun ob=>below_of_new hA (below_alloc1 w' ob)
       go_simp
       exact hR _ _ (hF.eff2 (by decide) (by decide) 1 hoo ha rfl hi (.inr ⟨4,rfl,hpv⟩) rfl (by decide) (fun _ _ _=>trivial) (fun _=>HSA.out _ (hb6 _)) ⟨w',hA,rfl,rfl⟩)
      ·simp[Region.binds] at hall
       have c55:a.tmps[55]?.getD undef= .slice pa nk ca:=by rw[←Array.getD_eq_getD_getElem?];exact hF.cl 1 (by decide) (by decide) (by decide) (by simp[hall])
       have hpv:d 5=true:=by first | first | exact hall | exact hall.1 | exact hall.2 | exact hall.2.1 | exact hall.2.2 | exact hall.2.2.1 | exact hall.2.2.2 | (exact ha ⟨_,_⟩ (by simp) rfl)
       have hP0:=hF.at2 (j:=2) rfl hi (.inr ⟨5,rfl,hpv⟩)
       have c55':a.tmps.getD 55 undef= .slice pa nk ca:=by rw[Array.getD_eq_getD_getElem?];exact c55
       exact PhK.app (.tmp 55) (.tmp 59) rfl HC0'.out hP0 c55' rfl HL2.out.2 (fun v' w2 hp3=>hR _ _ (hF.eff2 (by decide) (by decide) 2 hoo ha rfl hi (.inr ⟨5,rfl,hpv⟩) rfl (by decide) (fun _ _ _=>trivial) (fun _=>HSG.out _ _ hp3) hp3))
      ·go_simp
       exact hR _ _ (hF.pure (by decide) hoo ha rfl (by decide) (by decide) (by decide) rfl)
      ·simp[Region.binds] at hall
       have c61:a.tmps[61]?.getD undef= .pointer (some ⟨Y,2,none⟩):=by rw[←Array.getD_eq_getD_getElem?];exact hF.cl 7 (by decide) (by decide) (by decide) (by simp[hall])
       have hpv:d 6=true:=by first | first | exact hall | exact hall.1 | exact hall.2 | exact hall.2.1 | exact hall.2.2 | exact hall.2.2.1 | exact hall.2.2.2 | (exact ha ⟨_,_⟩ (by simp) rfl)
       have hP0:=hF.at2 (j:=3) rfl hi (.inr ⟨6,rfl,hpv⟩)
       have hP3:PhK W3 W0 Y (keyV txt ns q) ((x.kids.take i).map (keyV txt ns)) (.slice pa nk ca) 3 (a.tmps.getD 60 undef) w':=hP0
       have hS0:=hF.st hi
       rw[←hSA] at hS0
       obtain⟨⟨x3,x3f⟩,_⟩:=hS0
       obtain⟨pz2,cz2,hz⟩:=hP3.1.slice
       rw[HL2.out.1] at hz
       rw[hz] at hP3
       have c60:a.tmps[60]?.getD undef= .slice pz2 (nk+1) cz2:=by rw[←Array.getD_eq_getD_getElem?];exact hz
       go_simp
       exact hR undef _ (hF.eff2 (by decide) (by decide) 3 hoo ha rfl hi (.inr ⟨6,rfl,hpv⟩) rfl (by decide) (fun _ _ _=>trivial) (fun h=>absurd rfl h) ⟨_,_,hP3,rfl⟩)
     intro v wz hcl hP4
     obtain⟨kv2,HC2⟩:=PhK.fin HC0'.out hP4
     have HC2:Hid (CS W3 Y kd tx (ksV txt ns x.kind (x.kids.take (i+1))) ((x.kids.take i).map (nodeV txt ns lv)) kv2 (.slice po i co) wz):=hid (by unfold ksV;rw[if_pos HX6.out,HTK.out,List.map_append];exact HC2)
     clear hcl hP4 HSG HSA hSA HC0' hW0
     simp only[fillT,List.setIfInBounds_toArray,List.set_cons_succ,List.set_cons_zero]
     go_wp2_with fail
     go_meet
     exact⟨_,by first | exact HC2 | exact hid (HC2.out.keep (Below.refl _ _).drew)⟩
   case rest=>
    obtain⟨kv',HC1⟩:=hcut
    clear HC HNK hnk1 x0 x1 x2 x5 z0 z1 kc
    obtain⟨W0,hW0⟩: ∃W,wc.drew=W:=⟨_,rfl⟩
    have hb0r:Below wc.heap.size wc W0:=by rw[←hW0];exact(Below.refl _ _).drew
    have HC0':=hid (HC1.out.keep hb0r)
    have hlen2:((x.kids.take i).map (nodeV txt ns lv)++ [nodeV txt ns lv q]).length=i+1:=by rw[List.length_append,List.length_map,List.length_take,List.length_singleton];omega
    have hlk:((x.kids.take i).map (nodeV txt ns lv)).length≤4294967295:=by rw[List.length_map,List.length_take];omega
    have HL2:=hid (And.intro hlen2 hlk)
    clear hlen2 hlk hb0r
    go_upto_region 11 with fail
    obtain⟨SA,hSA⟩: ∃S:World→Prop,(fun w'=>(w'.cell? ⟨Y,3,none⟩=some (.slice po i co)∧w'.frozen? ⟨Y,3,none⟩=false)∧w'.cell? ⟨D,0,none⟩=some (.string (bs txt))∧w'.cell? ⟨D,1,none⟩=some (.slice (some ⟨g,0,none⟩) ns.length c))=S:=⟨_,rfl⟩
    have HSA:Hid (∀w',Below W0.heap.size W0 w'→SA w'):=hid (fun w' hb=>by
     rw[←hSA]
     obtain⟨_,a3,a4⟩:=HXC.out w' (below_of_new HC0'.out.bel hb)
     have q:=(HC0'.out.keep hb).cells
     exact⟨⟨q.2.2.2.1,q.2.2.2.2.2.2.2⟩,a3,a4⟩)
    have HSG:Hid (∀w' c',PhV W0 Y kv'.ownBlock (nodeV txt ns lv q) ((x.kids.take i).map (nodeV txt ns lv)) (.slice po i co) 3 c' w'→SA w'):=hid (fun w' c' hp=>by
     rw[←hSA]
     obtain⟨q1,q2,q3,q4⟩:=hp
     have hbox:=HC0'.out.box
     have hn:=HC0'.out.new_
     have hD3l:=cell_it HD3.out
     have hbY:Below (Y+1) W0 w':=q2
     have e2:w'.heap[Y]?=_:=(hbY.block Y (Nat.lt_succ_self _)).trans hbox
     have e3: ∀o',w'.cell? ⟨D,o',none⟩=W0.cell? ⟨D,o',none⟩:=fun o'=>hbY.cell (p:=⟨D,o',none⟩) (by show D<Y+1;omega)
     obtain⟨_,a3,a4⟩:=HXC.out W0 HC0'.out.bel
     obtain⟨y0,y1,y2,y3,y4,y5,y6,y7⟩:=box4 e2
     exact⟨⟨y3,y7⟩,by rw[e3];exact a3,by rw[e3];exact a4⟩)
    have hfol:Tryz.prog.follows .mixedOrders=true:=by kernel_rfl
    refine wp_region_rcf hfol [62,63,64,65,66,67,68,69,70,71] [6,7,8,10] 1000000 (fun _ _=>True) 74 rfl (by kernel_rfl) (by kernel_rfl) (by kernel_rfl) (fun iz=>match iz with | 0=> .pointer (some ⟨Y,3,none⟩) | 1=> .slice po i co | 2=> .agg #[.string (bs txt), .slice (some ⟨g,0,none⟩) ns.length c] | 3=> .int .i64 (q:Int) | 4=> .int .i64 lev | 5=> .int .i64 (lev+1) | 9=> .pointer (some ⟨Y,3,none⟩) | _=>undef) SA (PhV W0 Y kv'.ownBlock (nodeV txt ns lv q) ((x.kids.take i).map (nodeV txt ns lv)) (.slice po i co)) (by rw[hW0];exact HSA.out _ (Below.refl _ _)) (by rw[hW0];exact Below.refl _ _) ?_ ?_
    ·intro d a w' iq o' ho hi hall hfr hF R' hR
     have hiN:iq<11:=(Array.getElem?_eq_some_iff.1 ho).1
     have q2:a.tmps[2]?.getD undef= .int .i64 lev:=by rw[←Array.getD_eq_getD_getElem?];exact hfr 2 (by decide)
     have q3:a.tmps[3]?.getD undef= .pointer (some ⟨D,0,none⟩):=by rw[←Array.getD_eq_getD_getElem?];exact hfr 3 (by decide)
     have q8:a.tmps[8]?.getD undef= .pointer (some ⟨Y,0,none⟩):=by rw[←Array.getD_eq_getD_getElem?];exact hfr 8 (by decide)
     have q10:a.tmps[10]?.getD undef= .int .i64 (q:Int):=by rw[←Array.getD_eq_getD_getElem?];exact hfr 10 (by decide)
     clear hfr
     have ha:=hall
     have hoo:=ho
     have hcs:iq=0∨iq=1∨iq=2∨iq=3∨iq=4∨iq=5∨iq=6∨iq=7∨iq=8∨iq=9∨iq=10:=by omega
     clear hiN
     rcases hcs with rfl | rfl | rfl | rfl | rfl | rfl | rfl | rfl | rfl | rfl | rfl<;>simp only[List.getElem?_toArray,List.getElem?_cons_zero,List.getElem?_cons_succ,Option.some.injEq] at ho<;>subst ho
     ·go_simp
      exact hR _ _ (hF.pure (by decide) hoo ha rfl (by decide) (by decide) (by decide) rfl)
     ·simp[Region.binds] at hall
      have c62:a.tmps[62]?.getD undef= .pointer (some ⟨Y,3,none⟩):=by rw[←Array.getD_eq_getD_getElem?];exact hF.cl 0 (by decide) (by decide) (by decide) (by simp[hall])
      have hS0:=hF.early (f:=11) (i:=1) (by kernel_rfl) hi
      rw[←hSA] at hS0
      obtain⟨⟨x3,x3f⟩,s3,s4⟩:=hS0
      go_simp
      exact hR _ _ (hF.pure (by decide) hoo ha rfl (by decide) (by decide) (by decide) rfl)
     ·have hS0:=hF.early (f:=11) (i:=2) (by kernel_rfl) hi
      rw[←hSA] at hS0
      obtain⟨⟨x3,x3f⟩,s3,s4⟩:=hS0
      go_simp
      exact hR _ _ (hF.pure (by decide) hoo ha rfl (by decide) (by decide) (by decide) rfl)
     ·go_simp
      exact hR _ _ (hF.pure (by decide) hoo ha rfl (by decide) (by decide) (by decide) rfl)
     ·go_simp
      exact hR _ _ (hF.pure (by decide) hoo ha rfl (by decide) (by decide) (by decide) rfl)
     ·simp[Region.binds] at hall
      have c66:a.tmps[66]?.getD undef= .int .i64 lev:=by rw[←Array.getD_eq_getD_getElem?];exact hF.cl 4 (by decide) (by decide) (by decide) (by simp[hall])
      go_simp
      exact hR _ _ (hF.pure (by decide) hoo ha rfl (by decide) (by decide) (by decide) rfl)
     ·simp[Region.binds] at hall
      have c64:a.tmps[64]?.getD undef= .agg #[.string (bs txt), .slice (some ⟨g,0,none⟩) ns.length c]:=by rw[←Array.getD_eq_getD_getElem?];exact hF.cl 2 (by decide) (by decide) (by decide) (by simp[hall])
      have c65:a.tmps[65]?.getD undef= .int .i64 (q:Int):=by rw[←Array.getD_eq_getD_getElem?];exact hF.cl 3 (by decide) (by decide) (by decide) (by simp[hall])
      have c67:a.tmps[67]?.getD undef= .int .i64 (lev+1):=by rw[←Array.getD_eq_getD_getElem?];exact hF.cl 5 (by decide) (by decide) (by decide) (by simp[hall])
      have hP0:=hF.at2 (j:=0) rfl hi (.inl rfl)
      have hA:Below W0.heap.size W0 w':=hP0
      go_simp
      go_at_call 160
      refine(HND.out _ (below_of_new HC0'.out.bel hA) q HQM.out).mono ?_
      rintro e w5 ⟨⟨kv5,iv5,rfl,hv5⟩,hb5⟩
      have hb6:=below_of_new hA hb5
      exact hR _ _ (hF.eff2 (by decide) (by decide) 0 hoo ha rfl hi (.inl rfl) rfl (by decide) (fun _ _ _=>trivial) (fun _=>HSA.out _ hb6) ⟨kv5,iv5,rfl,hv5.mono (fun q hq _=>Nat.le_trans hA.size hq),hb6⟩)
     ·simp[Region.binds] at hall
      have hpv:d 6=true:=by first | first | exact hall | exact hall.1 | exact hall.2 | exact hall.2.1 | exact hall.2.2 | exact hall.2.2.1 | exact hall.2.2.2 | (exact ha ⟨_,_⟩ (by simp) rfl)
      have hP0:=hF.at2 (j:=1) rfl hi (.inr ⟨6,rfl,hpv⟩)
      obtain⟨kv5,iv5,hc5,hv5,hb5⟩:=hP0
      have hc5:a.tmps.getD 68 undef=vv (nodeV txt ns lv q) kv5 iv5:=hc5
      have c68:a.tmps[68]?.getD undef= .agg #[.int .i64 (nodeV txt ns lv q).kind, .string (bs (nodeV txt ns lv q).text),kv5,iv5]:=by rw[←Array.getD_eq_getD_getElem?];exact hc5
      have hb6:=fun ob=>below_of_new hb5 (below_alloc1 w' ob)
      go_simp
      exact hR _ _ (hF.eff2 (by decide) (by decide) 1 hoo ha rfl hi (.inr ⟨6,rfl,hpv⟩) rfl (by decide) (fun _ _ _=>trivial) (fun _=>HSA.out _ (hb6 _)) ⟨w',kv5,iv5,hv5,hb5,rfl,rfl⟩)
     ·simp[Region.binds] at hall
      have c63:a.tmps[63]?.getD undef= .slice po i co:=by rw[←Array.getD_eq_getD_getElem?];exact hF.cl 1 (by decide) (by decide) (by decide) (by simp[hall])
      have hpv:d 7=true:=by first | first | exact hall | exact hall.1 | exact hall.2 | exact hall.2.1 | exact hall.2.2 | exact hall.2.2.1 | exact hall.2.2.2 | (exact ha ⟨_,_⟩ (by simp) rfl)
      have hP0:=hF.at2 (j:=2) rfl hi (.inr ⟨7,rfl,hpv⟩)
      have c63':a.tmps.getD 63 undef= .slice po i co:=by rw[Array.getD_eq_getD_getElem?];exact c63
      exact PhV.app (.tmp 63) (.tmp 69) rfl HC0'.out hP0 c63' rfl HL2.out.2 (fun v' w2 hp3=>hR _ _ (hF.eff2 (by decide) (by decide) 2 hoo ha rfl hi (.inr ⟨7,rfl,hpv⟩) rfl (by decide) (fun _ _ _=>trivial) (fun _=>HSG.out _ _ hp3) hp3))
     ·go_simp
      exact hR _ _ (hF.pure (by decide) hoo ha rfl (by decide) (by decide) (by decide) rfl)
     ·simp[Region.binds] at hall
      have c71:a.tmps[71]?.getD undef= .pointer (some ⟨Y,3,none⟩):=by rw[←Array.getD_eq_getD_getElem?];exact hF.cl 9 (by decide) (by decide) (by decide) (by simp[hall])
      have hpv:d 8=true:=by first | first | exact hall | exact hall.1 | exact hall.2 | exact hall.2.1 | exact hall.2.2 | exact hall.2.2.1 | exact hall.2.2.2 | (exact ha ⟨_,_⟩ (by simp) rfl)
      have hP0:=hF.at2 (j:=3) rfl hi (.inr ⟨8,rfl,hpv⟩)
      have hP3:PhV W0 Y kv'.ownBlock (nodeV txt ns lv q) ((x.kids.take i).map (nodeV txt ns lv)) (.slice po i co) 3 (a.tmps.getD 70 undef) w':=hP0
      have hS0:=hF.st hi
      rw[←hSA] at hS0
      obtain⟨⟨x3,x3f⟩,_⟩:=hS0
      obtain⟨pz2,cz2,hz⟩:=hP3.1.slice
      rw[HL2.out.1] at hz
      rw[hz] at hP3
      have c70:a.tmps[70]?.getD undef= .slice pz2 (i+1) cz2:=by rw[←Array.getD_eq_getD_getElem?];exact hz
      go_simp
      exact hR undef _ (hF.eff2 (by decide) (by decide) 3 hoo ha rfl hi (.inr ⟨8,rfl,hpv⟩) rfl (by decide) (fun _ _ _=>trivial) (fun h=>absurd rfl h) ⟨_,_,hP3,rfl⟩)
    intro v wz hcl hP4
    obtain⟨ov2,HC2⟩:=PhV.fin HC0'.out hP4
    have HC2:Hid (CS W3 Y kd tx (ksV txt ns x.kind (x.kids.take (i+1))) ((x.kids.take (i+1)).map (nodeV txt ns lv)) kv' ov2 wz):=hid (by
     have e:(x.kids.take (i+1)).map (nodeV txt ns lv)=(x.kids.take i).map (nodeV txt ns lv)++ [nodeV txt ns lv q]:=by rw[HTK.out,List.map_append];rfl
     rw[e];exact HC2)
    clear hcl hP4 HSG HSA hSA HC0' hW0 HC1
    simp only[fillT,List.setIfInBounds_toArray,List.set_cons_succ,List.set_cons_zero]
    go_wp2_with fail
    go_roundw
    case rel=>exact⟨i+1,kv',ov2,by go_num,by omega,by first | exact HC2 | exact hid (HC2.out.keep (Below.refl _ _).drew)⟩
    case measure=>simp[RowKit.intOf];omega
  ·have dk:decide ((i:Int)<(x.kids.length:Int))=false:=decide_eq_false (by omega)
   obtain rfl:i=x.kids.length:=by omega
   have hc0:=HC.out
   rw[List.take_length] at hc0
   have HC9:=hid hc0
   clear hc0 HC
   obtain⟨pa,ca,hkv⟩:=HC9.out.keys.slice
   obtain⟨po,co,hov⟩:=HC9.out.its.slice
   obtain⟨nk,hnk⟩: ∃nk,(ksV txt ns x.kind x.kids).length=nk:=⟨_,rfl⟩
   obtain⟨ni,hni⟩: ∃ni,(x.kids.map (nodeV txt ns lv)).length=ni:=⟨_,rfl⟩
   rw[hnk] at hkv
   rw[hni] at hov
   subst hkv hov
   have HP:Hid (NewE (VT.mk kd tx (ksV txt ns x.kind x.kids) (x.kids.map (nodeV txt ns lv))) w (.returned (.agg #[.int .i64 kd, .string (bs tx), .slice pa nk ca, .slice po ni co])) (putV wr R kd tx (.slice pa nk ca) (.slice po ni co))):=hid (by
    refine⟨⟨_,_,rfl,?_⟩,below_putV (below_of_new HB3.out HC9.out.bel) (by omega)⟩
    exact(HC9.out.put (R:=R) hR3).mono (fun q hq _=>Nat.le_trans HB3.out.size hq))
   have HRf:Hid ((putV wr R kd tx (.slice pa nk ca) (.slice po ni co)).heap[R]?=some (.cells #[.int .i64 kd, .string (bs tx), .slice pa nk ca, .slice po ni co] 36)):=hid (putV_cells ((HC9.out.bel.block R hR3).trans HR3.out))
   obtain⟨r0,r1,r2,r3,f0,f1,f2,f3⟩:=box4 ((HC9.out.bel.block R hR3).trans HR3.out)
   obtain⟨y0,y1,y2,y3,_⟩:=HC9.out.cells
   clear hnk hni
   go_wp2_with fail
   obtain⟨WF,hWF⟩: ∃W,putV wr R kd tx (.slice pa nk ca) (.slice po ni co)=W:=⟨_,rfl⟩
   rw[hWF] at HP HRf
   have hWF':(((wr.setCell ⟨R,0,none⟩ (.int .i64 kd)).setCell ⟨R,1,none⟩ (.string (bs tx))).setCell ⟨R,2,none⟩ (.slice pa nk ca)).setCell ⟨R,3,none⟩ (.slice po ni co)=WF:=hWF
   rw[hWF']
   clear hWF hWF' r0 r1 r2 r3 f0 f1 f2 f3 y0 y1 y2 y3
   obtain⟨d0,d1,d2,d3,_⟩:=box4 HRf.out
   refine bodyPost_ret (v:= .agg #[.int .i64 kd, .string (bs tx), .slice pa nk ca, .slice po ni co]) ?_ rfl HP.out
   simp[results,Tryz.results160,go_sem,d0,d1,d2,d3]
theorem jnode_any (txt:Stp) (ns:List NodeD) (p:Option Addr) (c:Nat) (hN:ns.length≤65536) (hs:txt.length≤1073741824): ∀lv,JNd txt ns p c lv
 | 0=>fun _ _ _ _ h=>h.elim
 | lv+1=>jnode_step txt ns p c hN hs lv (jnode_any txt ns p c hN hs lv)
end Go.Proofs.YtlibkhbachmcgaaGreatDoor
namespace Go.Proofs.YtlibkhbachmcgaaGreatDoor
set_option linter.unusedSimpArgs false
set_option linter.unusedVariables false
open Go.Lib hiding intOf
theorem kids_bulk {txt:Stp}{ns:List NodeD}{A lv:Nat} (hK: ∀k,(keyV txt ns k).length≤A) (ih: ∀k m,TOk ns lv k m→(nodeV txt ns lv k).bulk+(A+1)≤(m-k)*(2*A+2)) {hi:Nat}: ∀(l:List Nat) (a:Nat),KidsOk (TOk ns lv) l a hi→
  a≤hi∧totS (l.map (keyV txt ns))+l.length+bulks (l.map (nodeV txt ns lv))≤(hi-a)*(2*A+2)
 | [],a,h=>by
  have e:a=hi:=h
  subst e
  exact⟨Nat.le_refl _,by simp[totS,bulks]⟩
 | x::l,a,h=>by
  obtain⟨rfl,m,h2,h3⟩:=h
  obtain⟨h4,h5⟩:=kids_bulk hK ih l m h3
  have h6:=ih x m h2
  have h7:=h2.lt
  have h8:=hK x
  refine⟨by omega,?_⟩
  rw[List.map_cons,List.map_cons,totS_cons,bulks,List.length_cons]
  have e:(hi-x)*(2*A+2)=(m-x)*(2*A+2)+(hi-m)*(2*A+2):=by rw[←Nat.add_mul];congr 1;omega
  rw[e]
  omega
theorem node_bulk (txt:Stp) (ns:List NodeD) (A:Nat) (hA: ∀kd sp,(textV kd (slT txt sp)).length≤A) (hK: ∀k,(keyV txt ns k).length≤A): ∀(lv k hi:Nat),TOk ns lv k hi→(nodeV txt ns lv k).bulk+(A+1)≤(hi-k)*(2*A+2)
 | 0,_,_,h=>h.elim
 | lv+1,k,hi,h=>by
  have hlt:=h.lt
  obtain⟨x,hx,h2⟩:=h
  obtain⟨h3,h4⟩:=kids_bulk hK (node_bulk txt ns A hA hK lv) x.kids (k+1) h2
  have hval:nodeV txt ns (lv+1) k= .mk (x.kind:Int) (textV x.kind (slT txt (x.sf,x.st))) (ksV txt ns x.kind x.kids) (x.kids.map (nodeV txt ns lv)):=by rw[nodeV,hx];rfl
  rw[hval,VT.bulk]
  have h5:=hA x.kind (x.sf,x.st)
  have h6:totS (ksV txt ns x.kind x.kids)+(ksV txt ns x.kind x.kids).length≤totS (x.kids.map (keyV txt ns))+x.kids.length:=by
   unfold ksV
   split
   ·rw[List.length_map]
    exact Nat.le_refl _
   ·simp[totS]
  have e:(hi-k)*(2*A+2)=(hi-(k+1))*(2*A+2)+(2*A+2):=by
   rw[show hi-k=(hi-(k+1))+1 by omega,Nat.add_mul,Nat.one_mul]
  rw[e]
  omega
end Go.Proofs.YtlibkhbachmcgaaGreatDoor
