import Derived.Test.YtlibkhbachmcgaaGreatDoorRe9
import Derived.Test.YtlibkhbachmcgaaGreatDoorRe10
import Derived.Test.YtlibkhbachmcgaaGreatDoorRe3
import Derived.Laws.Bits128
import Derived.Deep.RegionHeld3
set_option maxRecDepth 100000
set_option maxHeartbeats 8000000
namespace Go.Proofs.YtlibkhbachmcgaaGreatDoor
set_option linter.unusedSimpArgs false
set_option linter.unusedVariables false
open Go.RowKit Go.Maps Go.WideMaps
open Go.Lib hiding intOf
theorem tokCells_at: ∀(ts:List Tok) (j:Nat) (t:Tok),ts[j]?=some t→(tokCells ts)[j*3]?=some (.int .i64 t.kind)∧(tokCells ts)[j*3+1]?=some (.int .i64 t.sf)∧(tokCells ts)[j*3+2]?=some (.int .i64 t.st)
 | [],j,t,h=>by simp at h
 | u::ts,0,t,h=>by
  obtain rfl:u=t:=by simpa using h
  exact⟨rfl,rfl,rfl⟩
 | u::ts,j+1,t,h=>by
  rw[List.getElem?_cons_succ] at h
  have:=tokCells_at ts j t h
  rw[show (j+1)*3=j*3+3 by omega]
  exact this
theorem tokCells_snoc (ts:List Tok) (t:Tok):tokCells (ts++ [t])=tokCells ts++ [.int .i64 t.kind, .int .i64 t.sf, .int .i64 t.st]:=by unfold tokCells;simp
theorem OwnsToks.toTV {B:Nat}{w:World}{v:Value}{ts:List Tok} (h:OwnsToks B w v ts):TV w v ts:=by
 rcases h.2 with⟨h0,h1⟩ | ⟨g,cap,cur,h1,hb,h3,h4,_⟩
 ·exact⟨none,0,by rw[h0,h1],by omega, .inl (List.length_eq_zero_iff.1 h1)⟩
 ·refine⟨some ⟨g,0,none⟩,cap,h1,h4, .inr ⟨g,0,cur,rfl,h3,fun j t hj=>?_⟩⟩
  obtain⟨a,b,c⟩:=tokCells_at ts j t hj
  have hc:=h.cells (g:=g) (by rw[h1];rfl)
  have ha: ∀n,((⟨g,0,none⟩:Addr).add n)=⟨g,n,none⟩:=fun n=>by unfold Addr.add;split<;>simp_all
  simp only[Nat.zero_add]
  exact⟨by rw[←ha];exact hc _ _ a,by rw[←ha];exact hc _ _ b,by rw[←ha];exact hc _ _ c⟩
theorem toks_bounds: ∀(f:Nat) (l:List UInt8) (i:Nat),∀t∈(toksGo f l i).1,t.sf≤t.st∧t.st≤i+l.length
 | f,[],i,t,ht=>by rw[toksGo_nil] at ht;cases ht
 | 0,c::r,i,t,ht=>by cases ht
 | f+1,c::r,i,t,ht=>by
  rw[toksGo_cons] at ht
  split at ht
  ·have h1:=(tokR_ok (c::r) (by simp)).1
   rcases List.mem_cons.1 ht with rfl | ht
   ·simp only[];omega
   ·have:=toks_bounds f _ _ t ht
    rw[List.length_drop] at this
    omega
  ·cases ht
theorem toks_len: ∀(f:Nat) (l:List UInt8) (i:Nat),(toksGo f l i).1.length≤f
 | 0,l,i=>by simp[toksGo]
 | f+1,[],i=>by rw[toksGo_nil];simp
 | f+1,c::r,i=>by
  rw[toksGo_cons]
  split
  ·simp only[List.length_cons];have:=toks_len f ((c::r).drop (tokR (c::r)).2.1) (i+(tokR (c::r)).2.1);omega
  ·simp
theorem toksL_tb (l:List UInt8):(toksL l).1.length≤65536∧(∀t∈(toksL l).1,t.sf≤t.st∧t.st≤l.length)∧((toksL l).2.2=0→l.length≤65536):=by
 unfold toksL
 split
 ·exact⟨by simp,fun t h=>(by cases h),fun h=>(by cases h)⟩
 ·split
  ·exact⟨Nat.le_trans (toks_len _ _ _) (by omega),fun t h=>by have:=toks_bounds _ _ _ t h;omega,fun _=>by omega⟩
  ·rename_i p e ho
   refine⟨by simp,fun t h=>(by cases h),fun h=>?_⟩
   have:=toks_err l.length l 0 p e (Nat.le_refl _) ho
   exact absurd h this.2.2
def DocV (B:Nat) (w:World) (txt:List UInt8) (nodes:List NodeD) (v:Value):Prop:= ∃z nv,v= .agg #[.string (bs txt),nv]∧z.map (·.1)=nodes∧NodesAt B z nv w
def docT (l:List UInt8):List NodeD→List UInt8
 | []=> []
 | _::_=>l
def ParseE (l:List UInt8) (r:List NodeD×Int×Int) (w:World) (e:Ending) (w':World):Prop:=
 ∃v,e= .returned (.tuple #[v, .int .i64 r.2.1, .int .i64 r.2.2])∧DocV w.heap.size w' (docT l r.1) r.1 v∧Below w.heap.size w w'
theorem step_tok {ops:Array Oper}{o:Oper}{a:Act}{K:Act→World→Prop}{Q:Exit→Act→World→Prop}{E:Prop} (hgd:o.guard=none) (s x:Operand)
  (ho:o.op= .call { callee:= .builtin .append,args:= #[s,x],argTypes:= #[181,181] })
  (B:Nat) (w:World) (v:Value) (ts:List Tok) (t:Tok) (hs:a.eval s=v) (hown:OwnsToks B w v ts) (hx:a.eval x= .slice (some ⟨w.heap.size,0,none⟩) 1 1) (hl:ts.length≤4294967295) (hB:B≤w.heap.size)
  (hK: ∀kv w',OwnsToks B w' kv (ts++ [t])→w.grownBy w' v.ownBlock→K (a.put o.dst kv) w'):
  if Region.wanted o (yielded ops a.tmps)=true then Oper.wp Tryz.prog o a (w.alloc (.cells #[.int .i64 (t.kind:Int), .int .i64 (t.sf:Int), .int .i64 (t.st:Int)] 188)) K Q else E:=by
 obtain⟨i0,hi0,hz0,hz1,hz2⟩:=info_parts Tryz.infoTok
 refine step_append_lies _ hgd s x 181 ho B 188 i0 _ 3 24 Tryz.underlying181 hi0 hz0 hz1 hz2 rfl (by decide) v _ (tokCells ts) hs (World.ownsRow.alloc hown _) ⟨w.heap.size,0,none⟩ 1 1 [.int .i64 (t.kind:Int), .int .i64 (t.sf:Int), .int .i64 (t.st:Int)] hx (by rfl) (one_news w #[.int .i64 (t.kind:Int), .int .i64 (t.sf:Int), .int .i64 (t.st:Int)] _)
  (fun u hu=>by
   rcases List.mem_cons.1 hu with rfl | hu
   ·rfl
   ·rcases List.mem_cons.1 hu with rfl | hu
    ·rfl
    ·rw[List.mem_singleton.1 hu];rfl) (by decide) (by unfold maxLen;omega) (by omega) (by simp;omega) _ rfl ?_
 intro g cap w' h5 h6 h7 _
 refine hK _ w' ?_ (grown_of_alloc h6)
 unfold OwnsToks
 rw[tokCells_snoc,List.length_append,List.length_singleton]
 exact h5
theorem cells_fr2 {w:World}{X:Nat}{u v:Value}{t:TypeId} (h:w.heap[X]?=some (.cells #[u,v] t)):w.frozen? ⟨X,0,none⟩=false∧w.frozen? ⟨X,1,none⟩=false:=by
 constructor<;>simp[World.frozen?,h]
theorem results_doc {fn:Func} (h:fn.results= #[.cell 2 146, .tmp 3, .tmp 4]) (tmps:Array Value) (w:World) {D:Nat}{u v:Value} (hD:tmps.getD 2 undef= .pointer (some ⟨D,0,none⟩)) (h0:w.cell? ⟨D,0,none⟩=some u) (h1:w.cell? ⟨D,1,none⟩=some v):
  (results fn tmps).run Tryz.prog w= .ok (.tuple #[.agg #[u,v],tmps.getD 3 undef,tmps.getD 4 undef]) w:=by
 have hD':tmps[2]?.getD undef= .pointer (some ⟨D,0,none⟩):=by rw[←Array.getD_eq_getD_getElem?];exact hD
 simp[results,h,hD',asAddr,go_sem,h0,h1]
theorem JBox.rest {w:World}{P:Nat}{txt:List UInt8}{rv nv:Value}{l:Sp}{a:Nat}{er:Int} (h:JBox w P txt rv l nv a er) (rv2:Value):JBox (w.setCell ⟨P,1,none⟩ rv2) P txt rv2 l nv a er:=by
 unfold JBox at h ⊢
 simp[World.setCell,Array.getElem?_modify,h]
theorem JBox.off {w w':World}{P B:Nat}{txt:List UInt8}{rv nv:Value}{l:Sp}{a:Nat}{er:Int} (h:JBox w P txt rv l nv a er) {ts:List Tok}{v:Value} (hr:OwnsToks B w v ts) (hg:w.grownBy w' v.ownBlock):JBox w' P txt rv l nv a er:=
 (hg.block P h.lt (fun e=>by
  rcases own_off hr h (by decide) with h1 | h1
  ·rw[h1] at e;cases e
  ·exact h1 e.symm)).trans h
theorem own_tok {w:World}{B:Nat}{kv:Value}{ts:List Tok}{t:Tok} (h:OwnsToks B w kv (ts++ [t])): ∃g c,kv= .slice (some ⟨g,0,none⟩) (ts.length+1) c:=by
 unfold OwnsToks at h
 rw[List.length_append,List.length_singleton] at h
 exact own_succ h
theorem tok_push {w w2 w5:World}{P:Nat}{txt:List UInt8}{rv nv kv:Value}{l:Sp}{a:Nat}{er:Int}{ts:List Tok}{t:Tok} (h1:JBox w P txt rv l nv a er) (hr:OwnsToks (P+1) w rv ts) (hb:Below P w2 w) (hg:w.grownBy w5 rv.ownBlock) (ho:OwnsToks (P+1) w5 kv (ts++ [t])):
  JBox (w5.setCell ⟨P,1,none⟩ kv) P txt kv l nv a er∧OwnsToks (P+1) (w5.setCell ⟨P,1,none⟩ kv) kv (ts++ [t])∧Below P w2 (w5.setCell ⟨P,1,none⟩ kv)∧w5.cell? ⟨P,1,none⟩=some rv∧w5.frozen? ⟨P,1,none⟩=false:=by
 have j5:=h1.off hr hg
 refine⟨j5.rest kv,ho.kept (grown_set w5 P 1 kv) (own_off ho j5 (by decide)),(hb.grown hg (by have:=h1.lt;omega) (fun k hk=>by have:=(hr.lt k hk).1;omega)).setCell (by simp) _,j5.cells.2.1,j5.cells.2.2.2.2.2.2.2.1⟩
def endP (n:Nat):JR→List NodeD×Int×Int
 | .bad a e=>([],(a:Int),e)
 | .ok [] _ ns=>(ns,(n:Int),0)
 | .ok (t::_) _ _=>([],(t.sf:Int),2)
def noBlank (ts:List Tok):List Tok:=ts.filter (fun t=>t.kind !=1)
theorem noBlank_step (ts:List Tok) (k:Nat) (t:Tok) (h:ts[k]?=some t):noBlank (ts.take (k+1))=noBlank (ts.take k)++(if t.kind=1 then [] else [t]):=by
 unfold noBlank
 rw[List.take_add_one,h,Option.toList_some,List.filter_append]
 congr 1
 by_cases hk:t.kind=1
 ·simp[hk]
 ·simp[hk]
theorem doc_at {w w2 wr w4:World}{P:Nat} (hD:w2.heap[w.heap.size]?=some (.cells #[.string ⟨#[]⟩, .slice none 0 0] 146)) (h1:Below w2.heap.size w2 wr) (h2:Fr w2.heap.size P wr w4):
  w4.cell? ⟨w.heap.size,0,none⟩=some (.string ⟨#[]⟩)∧w4.cell? ⟨w.heap.size,1,none⟩=some (.slice none 0 0)∧w4.frozen? ⟨w.heap.size,0,none⟩=false∧w4.frozen? ⟨w.heap.size,1,none⟩=false∧w4.heap[w.heap.size]?=some (.cells #[.string ⟨#[]⟩, .slice none 0 0] 146):=by
 have h:w4.heap[w.heap.size]?=some (.cells #[.string ⟨#[]⟩, .slice none 0 0] 146):=((h1.trans h2.bel).block _ (cell_it hD)).trans hD
 exact⟨(cells_at2 h).1,(cells_at2 h).2,(cells_fr2 h).1,(cells_fr2 h).2,h⟩
theorem owns_base {w:World}{B B':Nat}{e:TypeId}{s:Nat}{v:Value}{n:Nat}{xs:List Value} (h:w.ownsRow B e s v n xs) (hB:B'≤B):w.ownsRow B' e s v n xs:=by
 refine⟨h.1,?_⟩
 rcases h.2 with h0 | ⟨g,cap,cur,h1,h2,h3⟩
 ·exact .inl h0
 ·exact .inr ⟨g,cap,cur,h1,Nat.le_trans hB h2,h3⟩
theorem NodesAt.base {B B':Nat}{z:List ND}{nv:Value}{w:World} (h:NodesAt B z nv w) (hB:B'≤B):NodesAt B' z nv w:=
 ⟨owns_base h.row hB,fun y hy=>owns_base (h.kids y hy) hB,fun y hy=>owns_base (h.pcs y hy) hB,h.ak,h.ap⟩
theorem doc_bad {w W:World}{l:List UInt8}{at_ er:Int} (hb:Below w.heap.size w W) (nd:List NodeD×Int×Int) (h1:nd=([],at_,er)):ParseE l nd w (.returned (.tuple #[.agg #[.string ⟨#[]⟩, .slice none 0 0], .int .i64 at_, .int .i64 er])) W:=by
 subst h1
 exact⟨_,rfl,⟨[], .slice none 0 0,rfl,rfl,NodesAt.nil _ _⟩,hb⟩
theorem jparse_any (l:List UInt8) (w:World) (hs:l.length≤4611686018427387904) (hV:SVar w) (hT:Tabs w):
  Calls Tryz.prog 159 #[.string (bs l)] w (ParseE l (parseJ l) w):=by
 have sl:=bs_size l
 obtain⟨ht1,ht2,ht3⟩:=toksL_tb l
 have hp:parseJ l=if(toksL l).2.2≠0 then([],(toksL l).2.1,(toksL l).2.2) else
  endP l.length (valueM l 32 (noBlank (toksL l).1) (0,0) [] (0,0)):=by
  unfold parseJ noBlank endP
  rfl
 rw[hp]
 clear hp
 have b1:=below_alloc1 w (.cells #[.string ⟨#[]⟩, .slice none 0 0] 146)
 have C:=tokens_any l (w.alloc (.cells #[.string ⟨#[]⟩, .slice none 0 0] 146)) hs (hV.keep b1) (hT.keep b1)
 obtain⟨r,hr⟩: ∃r,toksL l=r:=⟨_,rfl⟩
 rw[hr] at C ht1 ht2 ht3 ⊢
 obtain⟨T,at_,er⟩:=r
 have CT:=hid C
 have HB1:=hid b1
 simp only[] at ht1 ht2 ht3
 by_cases he:er=0
 case neg=>
  have hen:(er !=0)=true:=bne_iff_ne.2 he
  clear C b1 hr ht2 ht3
  go_enter Tryz.func159,Tryz.ntmps159
  go_wp2_with fail
  refine CT.out.mono ?_
  rintro e w2 ⟨v,rfl,ho,hn,hb⟩
  have hD:w2.heap[w.heap.size]?=some (.cells #[.string ⟨#[]⟩, .slice none 0 0] 146):=(hb.block _ (by simp)).trans (heap_alloc_new w _)
  obtain⟨c0,c1⟩:=cells_at2 hD
  obtain⟨f0,f1⟩:=cells_fr2 hD
  have hB:Below w.heap.size w w2:=HB1.out.trans (hb.mono (by simp))
  have HB:=hid hB
  clear hD ho hn hb hB
  go_wp2_with fail
  try simp only[Exit.inBlock,Exit.then]
  refine bodyPost_ret (results_doc rfl _ _ rfl (u:= .string ⟨#[]⟩) (v:= .slice none 0 0) ?_ ?_) rfl ?_
  ·simp[go_sem,c0,c1]
  ·simp[go_sem,c0,c1]
  ·refine⟨_,rfl,⟨[], .slice none 0 0,rfl,rfl,NodesAt.nil _ _⟩,(HB.out.setCell (by simp) _).setCell (by simp) _⟩
 subst he
 obtain⟨R,hR⟩: ∃R,valueM l 32 (noBlank T) (0,0) [] (0,0)=R:=⟨_,rfl⟩
 rw[if_neg (by simp)]
 simp only[]
 rw[hR]
 have hl:=ht3 rfl
 have HR:=hid hR
 have HT2:=hid ht2
 have HVT:=hid (And.intro hV hT)
 clear C b1 hr hR ht2 ht3 hV hT
 go_enter Tryz.func159,Tryz.ntmps159
 go_wp2_with fail
 refine CT.out.mono ?_
 rintro e w2 ⟨v,rfl,ho,hn,hb⟩
 have hD:w2.heap[w.heap.size]?=some (.cells #[.string ⟨#[]⟩, .slice none 0 0] 146):=(hb.block _ (by simp)).trans (heap_alloc_new w _)
 have hB:Below w.heap.size w w2:=HB1.out.trans (hb.mono (by simp))
 have HB:=hid hB
 have HDv:=hid hD
 have hDl:w.heap.size<w2.heap.size:=cell_it hD
 obtain⟨p0,c0,hv,hvc,hat⟩:=OwnsToks.toTV ho
 subst hv
 have HAt:Hid (∀j t,T[j]?=some t→ ∃g o,p0=some ⟨g,o,none⟩∧g<w2.heap.size∧w2.cell? ⟨g,o+j*3,none⟩=some (.int .i64 t.kind)∧w2.cell? ⟨g,o+j*3+1,none⟩=some (.int .i64 t.sf)∧w2.cell? ⟨g,o+j*3+2,none⟩=some (.int .i64 t.st)):=hid (fun j t hj=>by
  rcases hat with h0 | ⟨g,o,cur,h0,h1,h2⟩
  ·simp only[] at h0;rw[h0] at hj;simp at hj
  ·exact⟨g,o,h0,cell_it h1,h2 j t hj⟩)
 clear hD ho hn hb hB hat
 obtain⟨P,hP⟩: ∃P,w2.heap.size=P:=⟨_,rfl⟩
 have hJ0:JBox (w2.alloc (.cells #[.string (bs l), .slice none 0 0, .int .i64 0, .int .i64 0, .slice none 0 0, .int .i64 0, .int .i64 0] 210)) P l (.slice none 0 0) (0,0) (.slice none 0 0) 0 0:=by
  rw[←hP];exact heap_alloc_new w2 _
 have HJ0:=hid hJ0
 have HB0:Hid (Below P w2 (w2.alloc (.cells #[.string (bs l), .slice none 0 0, .int .i64 0, .int .i64 0, .slice none 0 0, .int .i64 0, .int .i64 0] 210))):=hid (by rw[←hP];exact below_alloc1 w2 _)
 have HO0:Hid (OwnsToks (P+1) (w2.alloc (.cells #[.string (bs l), .slice none 0 0, .int .i64 0, .int .i64 0, .slice none 0 0, .int .i64 0, .int .i64 0] 210)) (.slice none 0 0) (noBlank (T.take 0))):=hid ⟨rfl, .inl ⟨rfl,rfl⟩⟩
 clear hJ0
 rw[hP] at hDl HAt
 go_wp2_with fail
 go_loopw [28] (fun s28 wr=> ∃(k:Nat) (rv:Value),s28= .int .i64 (k:Int)∧k≤T.length∧Hid (JBox wr P l rv (0,0) (.slice none 0 0) 0 0)∧Hid (OwnsToks (P+1) wr rv (noBlank (T.take k)))∧Hid (Below P w2 wr)) (fun s28 _=>T.length-(RowKit.intOf s28).toNat)
 case atStart=>exact⟨0,_,rfl,by omega,HJ0,HO0,HB0⟩
 case round=>
  obtain⟨k,rv,rfl,hk,HJ,HO,HBr⟩:=hrel
  by_cases hkl:k<T.length
  ·obtain⟨t,ht⟩: ∃t,T[k]?=some t:=⟨_,List.getElem?_eq_getElem hkl⟩
   obtain⟨g,o,rfl,hg,e0,e1,e2⟩:=HAt.out k t ht
   have hgP:g<P:=hg
   have a0:wr.cell? ⟨g,o+k*3,none⟩=some (.int .i64 (t.kind:Int)):=by rw[HBr.out.cell (p:=⟨g,o+k*3,none⟩) hg];exact e0
   have a1:wr.cell? ⟨g,o+k*3+1,none⟩=some (.int .i64 (t.sf:Int)):=by rw[HBr.out.cell (p:=⟨g,o+k*3+1,none⟩) hg];exact e1
   have a2:wr.cell? ⟨g,o+k*3+2,none⟩=some (.int .i64 (t.st:Int)):=by rw[HBr.out.cell (p:=⟨g,o+k*3+2,none⟩) hg];exact e2
   have hk0:(0:Int)≤(k:Int):=by omega
   have hk1:(k:Int)<(T.length:Int):=by omega
   have dk:decide ((k:Int)<(T.length:Int))=true:=decide_eq_true hk1
   obtain⟨k1,hk1e⟩: ∃k1,k+1=k1:=⟨_,rfl⟩
   have hk1z:(k:Int)+1=(k1:Int):=by omega
   have hstep:=noBlank_step T k t ht
   rw[hk1e] at hstep
   have hkk:k1≤T.length:=by omega
   have hPr:=HJ.out.lt
   obtain⟨tmp,htmp⟩: ∃o:Obj, .cells #[.int .i64 (t.kind:Int), .int .i64 (t.sf:Int), .int .i64 (t.st:Int)] 188=o:=⟨_,rfl⟩
   have bt:=below_alloc1 wr tmp
   have HJt:=hid (HJ.out.keep bt)
   have HOt:Hid (OwnsToks (P+1) (wr.alloc tmp) rv (noBlank (T.take k))):=hid (World.ownsRow.alloc HO.out _)
   have HBt:Hid (Below P w2 (wr.alloc tmp)):=hid (HBr.out.trans (bt.mono (by omega)))
   rw[←htmp] at HJt HOt HBt
   by_cases h1:t.kind=1
   ·have d1:((t.kind:Int) !=1)=false:=by rw[h1];rfl
    rw[if_pos h1,List.append_nil] at hstep
    rw[←hstep] at HOt
    clear e0 e1 e2 hstep ht bt htmp h1
    go_wp2_with fail
    go_roundw
    ·exact⟨k1,rv,by rw[←hk1z],hkk,HJt,HOt,HBt⟩
    ·simp only[RowKit.intOf];omega
   ·have d1:((t.kind:Int) !=1)=true:=bne_iff_ne.2 (by omega)
    rw[if_neg h1] at hstep
    clear e0 e1 e2 ht bt htmp h1
    go_upto_region 9 with fail
    obtain⟨X,hX⟩: ∃X,wr.heap.size=X:=⟨_,rfl⟩
    have x0:=cell_new2 wr #[.int .i64 (t.kind:Int), .int .i64 (t.sf:Int), .int .i64 (t.st:Int)] 188 0 _ rfl
    have x1:=cell_new2 wr #[.int .i64 (t.kind:Int), .int .i64 (t.sf:Int), .int .i64 (t.st:Int)] 188 1 _ rfl
    have x2:=cell_new2 wr #[.int .i64 (t.kind:Int), .int .i64 (t.sf:Int), .int .i64 (t.st:Int)] 188 2 _ rfl
    rw[hX] at x0 x1 x2
    try rw[hX]
    obtain⟨W,hW⟩: ∃W,wr.alloc (.cells #[.int .i64 (t.kind:Int), .int .i64 (t.sf:Int), .int .i64 (t.st:Int)] 188)=W:=⟨_,rfl⟩
    rw[hW] at x0 x1 x2 HJt HOt HBt
    rw[hW]
    have hPW:P<W.heap.size:=HJt.out.lt
    have hXW:X<W.heap.size:=by rw[←hW,←hX];simp
    have q1:=HJt.out.cells.2.1
    have hlen:(noBlank (T.take k)).length≤4294967295:=by
     refine Nat.le_trans (List.length_filter_le _ _) ?_
     rw[List.length_take];omega
    have hOd:OwnsToks (P+1) W.drew rv (noBlank (T.take k)):=HOt.out
    clear hW hX a0 a1 a2
    go_region_law (refine step_tok (by rfl) (.tmp 39) (.tmp 41) (by rfl) (P+1) W.drew rv (noBlank (T.take k)) t (by rfl) hOd (by rfl) hlen hPW ?_;intro kv w5 ho5 hg5;obtain⟨j5,o5,b5,c5,f5⟩:=tok_push (w:=W.drew) (w2:=w2) (HJt.out.keep (Below.refl _ _).drew) hOd HBt.out.drew hg5 ho5;obtain⟨gk,pk,rfl⟩:=own_tok ho5)
    all_goals
     rw[←hstep] at o5
     have HJ5:=hid j5
     have HO5:=hid o5
     have HB5:=hid b5
     clear j5 o5 b5 c5 f5 ho5 hg5 hstep hOd q1 x0 x1 x2
     go_wp2_with fail
     go_roundw
     ·exact⟨k1,_,by rw[←hk1z],hkk,HJ5,HO5,HB5⟩
     ·simp only[RowKit.intOf];omega
  ·have hke:k=T.length:=by omega
   subst hke
   rw[List.take_length] at HO
   have dk:decide ((T.length:Int)<(T.length:Int))=false:=decide_eq_false (by omega)
   have hPr:=HJ.out.lt
   have hj:J w2.heap.size P l (noBlank T) (0,0) [] wr:=⟨rv,[], .slice none 0 0,HJ.out,OwnsToks.toTV HO.out,rfl,NodesAt.nil _ _,by omega⟩
   have hnl:(noBlank T).length≤65536:=Nat.le_trans (List.length_filter_le _ _) ht1
   have hbw:Below w2.heap.size w2 wr:=by rw[hP];exact HBr.out
   have CV:=value_any w2 P l hl (HVT.out.1.keep HB.out) (HVT.out.2.keep HB.out) 32 (by omega) wr (noBlank T) (0,0) [] (0,0) 1 hj hbw ⟨by omega,fun t ht=>HT2.out t (List.mem_filter.1 ht).1⟩ (by simp;omega) (by omega)
   rw[HR.out] at CV
   have HCV:=hid CV
   have HBw:=hid hbw
   clear CV hj hbw
   cases R with
   | bad a er=>
    go_wp2_with fail
    refine HCV.out.mono ?_
    rintro e w4 ⟨rfl,⟨txt',rv4,l4,z4,nv4,jb, -, -, -⟩,hf⟩
    obtain⟨_,_,_,_,_,c5,c6,_⟩:=jb.cells
    obtain⟨d0,d1,d2,d3,dD⟩:=doc_at HDv.out HBw.out hf
    have HB4:Hid (Below w.heap.size w w4):=hid (HB.out.trans ((HBw.out.trans hf.bel).mono (by omega)))
    have hDP:w.heap.size≠P:=by omega
    clear hf jb
    go_upto_region 15 with fail
    go_region
    all_goals
     go_wp2_with fail
     try simp only[Exit.inBlock,Exit.then]
     refine bodyPost_ret (results_doc rfl _ _ rfl (u:= .string ⟨#[]⟩) (v:= .slice none 0 0) ?_ ?_) rfl ?_
     ·simp[go_sem,d0,d1]
     ·simp[go_sem,d0,d1]
     ·exact doc_bad (((HB4.out.setCell (by simp) _).setCell (by simp) _).drew) _ rfl
   | ok rr l2 ns=>
    cases rr with
    | cons t rr=>
     obtain⟨more,_,_,hm2,_⟩:=value_ext l 32 _ _ _ _ _ _ _ HR.out
     simp only[List.length_cons] at hm2
     go_wp2_with fail
     refine HCV.out.mono ?_
     rintro e w4 ⟨rfl,hj4,hf⟩
     have CF:=hid (fail_any _ P l (t::rr) l2 ns 2 w4 hj4 (by simp only[List.length_cons];omega) (by omega))
     obtain⟨rv4,z4,nv4,j1,j2,_⟩:=hj4
     obtain⟨g4,o4,c4,rfl,_⟩:=j2.head
     have r1:=j1.cells.2.1
     have HF4:=hid hf
     have drr:decide ((0:Int)<(rr.length:Int)+1)=true:=decide_eq_true (by omega)
     clear hf j1 j2
     go_wp2_with fail
     refine CF.out.mono ?_
     rintro e w5 ⟨rfl,⟨txt',rv5,l5,z5,nv5,jb, -, -, -⟩,hf5⟩
     obtain⟨_,_,_,_,_,c5,c6,_⟩:=jb.cells
     obtain⟨d0,d1,d2,d3,dD⟩:=doc_at HDv.out HBw.out (HF4.out.trans hf5)
     have HB4:Hid (Below w.heap.size w w5):=hid (HB.out.trans ((HBw.out.trans (HF4.out.trans hf5).bel).mono (by omega)))
     have hDP:w.heap.size≠P:=by omega
     clear hf5 jb
     go_upto_region 15 with fail
     go_region
     all_goals
      go_wp2_with fail
      try simp only[Exit.inBlock,Exit.then]
      refine bodyPost_ret (results_doc rfl _ _ rfl (u:= .string ⟨#[]⟩) (v:= .slice none 0 0) ?_ ?_) rfl ?_
      ·simp[go_sem,d0,d1]
      ·simp[go_sem,d0,d1]
      ·exact doc_bad (((HB4.out.setCell (by simp) _).setCell (by simp) _).drew) _ rfl
    | nil=>
     obtain⟨more,hne,hm1,hm2,_⟩:=value_ext l 32 _ _ _ _ _ _ _ HR.out
     go_wp2_with fail
     refine HCV.out.mono ?_
     rintro e w4 ⟨rfl,⟨rv4,z4,nv4,j1,j2,j3,j4,j5⟩,hf⟩
     obtain⟨p4,c4,rfl⟩:=j2.empty
     obtain⟨_,q1,_,_,q4,_⟩:=j1.cells
     obtain⟨d0,d1,d2,d3,dD⟩:=doc_at HDv.out HBw.out hf
     obtain⟨p5,c5,rfl⟩:=j4.slice
     have HB4:Hid (Below w.heap.size w w4):=hid (HB.out.trans ((HBw.out.trans hf.bel).mono (by omega)))
     have hDP:w.heap.size≠P:=by omega
     have HJ4:=hid (And.intro j3 j4)
     clear hf j1 j2 j4
     have HDD:=hid dD
     clear dD
     go_wp2_with fail
     try simp only[Exit.inBlock,Exit.then]
     refine bodyPost_ret (results_doc rfl _ _ rfl (u:= .string (bs l)) (v:= .slice p5 z4.length c5) ?_ ?_) rfl ?_
     ·simp[go_sem,d0,d1]
     ·simp[go_sem,d0,d1]
     ·refine⟨_,rfl,⟨z4, .slice p5 z4.length c5,?_,HJ4.out.1,?_⟩,(HB4.out.setCell (by simp) _).setCell (by simp) _⟩
      ·have hd:docT l (endP l.length (JR.ok [] l2 ns)).1=l:=by
        rw[List.nil_append] at hne
        subst hne
        cases ns with
        | nil=>simp at hm1
        | cons y ys=>rfl
       rw[hd]
      ·exact(HJ4.out.2.other HDD.out (by decide) (by decide) (by decide) (grown_trans (grown_set w4 w.heap.size 0 (.string (bs l))) (grown_set _ w.heap.size 1 (.slice p5 z4.length c5)))).base (by omega)
def IntsR (w:World) (v:Value) (l:List Nat):Prop:= ∃p c,v= .slice p l.length c∧ ∀(j k:Nat),l[j]?=some k→ ∃g,p=some ⟨g,0,none⟩∧w.cell? ⟨g,j,none⟩=some (.int .i64 (k:Int))
def SpansR (w:World) (v:Value) (l:List Sp):Prop:= ∃p c,v= .slice p l.length c∧ ∀(j:Nat) (k:Sp),l[j]?=some k→ ∃g,p=some ⟨g,0,none⟩∧w.cell? ⟨g,j*2,none⟩=some (.int .i64 (k.1:Int))∧w.cell? ⟨g,j*2+1,none⟩=some (.int .i64 (k.2:Int))
def NodeR (w:World) (g i:Nat) (x:NodeD):Prop:= ∃kv pv,w.cell? ⟨g,i*7,none⟩=some (.int .i64 (x.kind:Int))∧w.cell? ⟨g,i*7+1,none⟩=some (.int .i64 (x.sf:Int))∧w.cell? ⟨g,i*7+2,none⟩=some (.int .i64 (x.st:Int))∧
 w.cell? ⟨g,i*7+3,none⟩=some (.int .i64 (x.key.1:Int))∧w.cell? ⟨g,i*7+4,none⟩=some (.int .i64 (x.key.2:Int))∧w.cell? ⟨g,i*7+5,none⟩=some kv∧w.cell? ⟨g,i*7+6,none⟩=some pv∧IntsR w kv x.kids∧SpansR w pv x.pcs
def DocR (w:World) (nv:Value) (nodes:List NodeD):Prop:= ∃p c,nv= .slice p nodes.length c∧ ∀i x,nodes[i]?=some x→ ∃g,p=some ⟨g,0,none⟩∧NodeR w g i x
theorem cell_keep {w w':World}{a:Addr}{u:Value} (h:w.cell? a=some u) (hb:Below w.heap.size w w'):w'.cell? a=some u:=by
 rw[hb.cell (World.block_lt_of_cell? w a h)];exact h
theorem IntsR.keep {w w':World}{v:Value}{l:List Nat} (h:IntsR w v l) (hb:Below w.heap.size w w'):IntsR w' v l:=by
 obtain⟨p,c,h1,h2⟩:=h
 exact⟨p,c,h1,fun j k hj=>by obtain⟨g,e,hc⟩:=h2 j k hj;exact⟨g,e,cell_keep hc hb⟩⟩
theorem SpansR.keep {w w':World}{v:Value}{l:List Sp} (h:SpansR w v l) (hb:Below w.heap.size w w'):SpansR w' v l:=by
 obtain⟨p,c,h1,h2⟩:=h
 exact⟨p,c,h1,fun j k hj=>by obtain⟨g,e,hc,hd⟩:=h2 j k hj;exact⟨g,e,cell_keep hc hb,cell_keep hd hb⟩⟩
theorem NodeR.keep {w w':World}{g i:Nat}{x:NodeD} (h:NodeR w g i x) (hb:Below w.heap.size w w'):NodeR w' g i x:=by
 obtain⟨kv,pv,h0,h1,h2,h3,h4,h5,h6,h7,h8⟩:=h
 exact⟨kv,pv,cell_keep h0 hb,cell_keep h1 hb,cell_keep h2 hb,cell_keep h3 hb,cell_keep h4 hb,cell_keep h5 hb,cell_keep h6 hb,h7.keep hb,h8.keep hb⟩
theorem spCells_at: ∀(l:List Sp) (j:Nat) (k:Sp),l[j]?=some k→(spCells l)[j*2]?=some (.int .i64 (k.1:Int))∧(spCells l)[j*2+1]?=some (.int .i64 (k.2:Int))
 | [],j,k,h=>by simp at h
 | u::l,0,k,h=>by
  obtain rfl:u=k:=by simpa using h
  exact⟨rfl,rfl⟩
 | u::l,j+1,k,h=>by
  rw[List.getElem?_cons_succ] at h
  have:=spCells_at l j k h
  rw[show (j+1)*2=j*2+2 by omega]
  exact this
theorem own_read {w:World}{B:Nat}{e:TypeId}{s:Nat}{v:Value}{n:Nat}{xs:List Value} (h:w.ownsRow B e s v n xs): ∃p c,v= .slice p n c∧(n≠0→ ∃g,p=some ⟨g,0,none⟩∧ ∀i u,xs[i]?=some u→w.cell? ⟨g,i,none⟩=some u):=by
 rcases h.2 with⟨rfl,rfl⟩ | ⟨g,cap,cur,rfl,_⟩
 ·exact⟨none,0,rfl,fun h=>absurd rfl h⟩
 ·refine⟨_,_,rfl,fun _=>⟨g,rfl,fun i u hi=>?_⟩⟩
  have hc:=h.cells (g:=g) rfl
  have ha:((⟨g,0,none⟩:Addr).add i)=⟨g,i,none⟩:=by unfold Addr.add;split<;>simp_all
  rw[←ha]
  exact hc _ _ hi
theorem ints_read {w:World}{B:Nat}{v:Value}{l:List Nat} (h:w.ownsRow B 3 1 v l.length (intCells l)):IntsR w v l:=by
 obtain⟨p,c,h1,h2⟩:=own_read h
 refine⟨p,c,h1,fun j k hj=>?_⟩
 have hj1:=(List.getElem?_eq_some_iff.1 hj).1
 obtain⟨g,e,hc⟩:=h2 (by omega)
 exact⟨g,e,hc j _ (by unfold intCells;rw[List.getElem?_map,hj];rfl)⟩
theorem spans_read {w:World}{B:Nat}{v:Value}{l:List Sp} (h:w.ownsRow B 42 2 v l.length (spCells l)):SpansR w v l:=by
 obtain⟨p,c,h1,h2⟩:=own_read h
 refine⟨p,c,h1,fun j k hj=>?_⟩
 have hj1:=(List.getElem?_eq_some_iff.1 hj).1
 obtain⟨g,e,hc⟩:=h2 (by omega)
 obtain⟨a,b⟩:=spCells_at l j k hj
 exact⟨g,e,hc _ _ a,hc _ _ b⟩
theorem DocR.of {B:Nat}{w:World}{z:List ND}{nv:Value} (h:NodesAt B z nv w):DocR w nv (z.map (·.1)):=by
 obtain⟨p,c,h1,h2⟩:=own_read h.row
 refine⟨p,c,by rw[List.length_map];exact h1,fun i x hx=>?_⟩
 rw[List.getElem?_map] at hx
 obtain⟨y,hy,rfl⟩:=Option.map_eq_some_iff.1 hx
 have hj1:=(List.getElem?_eq_some_iff.1 hy).1
 obtain⟨g,e,hc⟩:=h2 (by omega)
 have hm:=List.mem_of_getElem? hy
 have ha: ∀k,k<7→ ∀u,(ndCells y)[k]?=some u→w.cell? ⟨g,i*7+k,none⟩=some u:=fun k hk u hu=>hc _ _ (by rw[nodeCells_at z i y hy k hk];exact hu)
 exact⟨g,e,y.2.1,y.2.2,ha 0 (by omega) _ rfl,ha 1 (by omega) _ rfl,ha 2 (by omega) _ rfl,ha 3 (by omega) _ rfl,ha 4 (by omega) _ rfl,ha 5 (by omega) _ rfl,ha 6 (by omega) _ rfl,ints_read (h.kids y hm),spans_read (h.pcs y hm)⟩
def NodesR (w:World) (p:Option Addr) (nodes:List NodeD):Prop:= ∀(i:Nat) (x:NodeD),nodes[i]?=some x→ ∃g,p=some ⟨g,0,none⟩∧NodeR w g i x
theorem NodesR.keep {w w':World}{p:Option Addr}{nodes:List NodeD} (h:NodesR w p nodes) (hb:Below w.heap.size w w'):NodesR w' p nodes:=fun i x hx=>by
 obtain⟨g,e,hn⟩:=h i x hx
 exact⟨g,e,hn.keep hb⟩
def ParseR (l:List UInt8) (r:List NodeD×Int×Int) (w:World) (e:Ending) (w':World):Prop:=
 ∃p c,e= .returned (.tuple #[.agg #[.string (bs (docT l r.1)), .slice p r.1.length c], .int .i64 r.2.1, .int .i64 r.2.2])∧NodesR w' p r.1∧Below w.heap.size w w'
theorem parse_read (l:List UInt8) (r:List NodeD×Int×Int) (hr:parseJ l=r) (w:World) (hs:l.length≤4611686018427387904) (hV:SVar w) (hT:Tabs w):
  Calls Tryz.prog 159 #[.string (bs l)] w (ParseR l r w):=by
 subst hr
 refine(jparse_any l w hs hV hT).mono fun e w' h=>?_
 obtain⟨v,he,⟨z,nv,hv,hz,hn⟩,hb⟩:=h
 subst hv
 obtain⟨p,c,hnv,hp⟩:=DocR.of hn
 rw[hz] at hnv hp
 subst hnv
 exact⟨p,c,he,hp,hb⟩
theorem finP_len (l:List UInt8) (lv:Nat) (ts:List Tok) (hts:ts.length≤65536):(finP l.length (valueM l lv ts (0,0) [] (0,0))).1.length≤65536:=by
 cases hR:valueM l lv ts (0,0) [] (0,0) with
 | bad a er=>simp[finP]
 | ok rr l2 ns=>
  obtain⟨more,hne,hm1,hm2,_⟩:=value_ext l lv _ _ _ _ _ _ _ hR
  cases rr with
  | nil=>rw[List.nil_append] at hne;subst hne;show ns.length≤_;simp only[List.length_nil] at hm2;omega
  | cons t rr=>simp[finP]
theorem parse_few (l:List UInt8):(parseJ l).1.length≤65536:=by
 rw[parse_eq]
 split
 ·simp
 ·exact finP_len l 32 _ (Nat.le_trans (List.length_filter_le _ _) (toksL_tb l).1)
def DocC (w:World) (D:Nat) (txt:ByteArray) (p:Option Addr) (n c:Nat):Prop:=w.heap[D]?=some (.cells #[.string txt, .slice p n c] 146)
theorem DocC.new (w:World) (txt:ByteArray) (p:Option Addr) (n c:Nat):DocC (w.alloc (.cells #[.string txt, .slice p n c] 146)) w.heap.size txt p n c:=heap_alloc_new w _
def sliceB (txt:ByteArray) (a b:Int):ByteArray:=if a<0∨b<a∨(txt.size:Int)<b then⟨#[]⟩ else txt.extract a.toNat b.toNat
theorem jslice_any (txt:ByteArray) (nv:Value) (hnv:nv.oneCell'=true) (a b:Int) (w:World):
  Calls Tryz.prog 197 #[.agg #[.string txt,nv], .agg #[.int .i64 a, .int .i64 b]] w fun e w'=>e= .returned (.string (sliceB txt a b))∧Below w.heap.size w w':=by
 obtain⟨R,hR⟩: ∃R,sliceB txt a b=R:=⟨_,rfl⟩
 rw[hR]
 unfold sliceB at hR
 have hb:=(below_alloc1 w (.cells #[.string txt,nv] 146)).trans ((below_alloc1 (w.alloc (.cells #[.string txt,nv] 146)) (.cells #[.int .i64 a, .int .i64 b] 42)).mono (by simp))
 have HB:=hid hb
 clear hb
 by_cases h1:a<0
 ·rw[if_pos (.inl h1)] at hR
  have d1:decide (a<0)=true:=decide_eq_true h1
  subst hR
  go_enter Tryz.func197,Tryz.ntmps197
  go_wp2_with fail
  go_ret
  exact⟨rfl,HB.out⟩
 have d1:decide (a<0)=false:=decide_eq_false h1
 by_cases h2:b<a
 ·rw[if_pos (.inr (.inl h2))] at hR
  have d2:decide (b<a)=true:=decide_eq_true h2
  subst hR
  go_enter Tryz.func197,Tryz.ntmps197
  go_wp2_with fail
  go_ret
  exact⟨rfl,HB.out⟩
 have d2:decide (b<a)=false:=decide_eq_false h2
 by_cases h3:(txt.size:Int)<b
 ·rw[if_pos (.inr (.inr h3))] at hR
  have d3:decide ((txt.size:Int)<b)=true:=decide_eq_true h3
  subst hR
  go_enter Tryz.func197,Tryz.ntmps197
  go_wp2_with fail
  go_ret
  exact⟨rfl,HB.out⟩
 have d3:decide ((txt.size:Int)<b)=false:=decide_eq_false h3
 rw[if_neg (by omega)] at hR
 obtain⟨a',rfl⟩: ∃a':Nat,a=a':=⟨a.toNat,by omega⟩
 obtain⟨b',rfl⟩: ∃b':Nat,b=b':=⟨b.toNat,by omega⟩
 have i1:(0:Int)≤(a':Int):=by omega
 have i2:(a':Int)≤(b':Int):=by omega
 have i3:(b':Int)≤(txt.size:Int):=by omega
 subst hR
 simp only[Int.toNat_natCast]
 go_enter Tryz.func197,Tryz.ntmps197
 go_wp2_with fail
 go_ret
 exact⟨rfl,HB.out⟩
end Go.Proofs.YtlibkhbachmcgaaGreatDoor
