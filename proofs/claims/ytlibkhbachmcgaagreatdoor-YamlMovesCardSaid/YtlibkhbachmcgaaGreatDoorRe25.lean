import Derived.Test.YtlibkhbachmcgaaGreatDoorRe24
import Derived.Test.YtlibkhbachmcgaaGreatDoorShelfD
set_option maxRecDepth 100000
set_option maxHeartbeats 8000000
namespace Go.Proofs.YtlibkhbachmcgaaGreatDoor
set_option linter.unusedSimpArgs false
set_option linter.unusedVariables false
open Go.RowKit
open Go.Lib hiding intOf
structure DocB (s:Stp) (d:YDoc):Prop where
 txt:s.length≤65536
 lns:d.lines.length≤131072
 nds:d.nodes.length≤131072
 nd: ∀x∈d.nodes,x.fr≤1073741824∧x.til≤1073741824∧x.kids.length≤131072
 ind: ∀l∈d.lines,0≤l.ind
theorem litLines_len (ls:List LineR) (x:YND):(litLines ls x).length=min x.til ls.length-(x.fr+1):=by
 unfold litLines
 rw[List.length_drop,List.length_take]
theorem litLines_at {ls:List LineR}{x:YND}{i:Nat}{r:LineR} (h:(litLines ls x)[i]?=some r):ls[x.fr+1+i]?=some r:=by
 unfold litLines at h
 rw[List.getElem?_drop] at h
 rw[List.getElem?_take] at h
 split at h
 ·exact h
 ·cases h
theorem among_row {w:World}{B:Nat}{d:YDoc}{pl:Option Addr}{n cl:Nat} (h:w.ownsRow B 51 10 (.slice pl n cl) d.lines.length (lnCells d.lines)) (x:YND):
  n=d.lines.length∧n≤cl∧(pl=none→n=0)∧ ∃pr cr,(if min x.til n≤x.fr+1 then .slice none 0 0 else .slice (pl.map fun a=>a.add ((x.fr+1)*10)) (min x.til n-(x.fr+1)) (cl-(x.fr+1)):Value)= .slice pr (litLines d.lines x).length cr∧
   ∀i r,(litLines d.lines x)[i]?=some r→ ∃g o,pr=some ⟨g,o,none⟩∧g<w.heap.size∧ ∀j u,j<10→(lineC r)[j]?=some u→w.cell? ⟨g,o+i*10+j,none⟩=some u:=by
 have hr:=h
 rcases h.2 with⟨h0,h1⟩ | ⟨g,cap,cur,h1,h2,h3,h4,_⟩
 ·injection h0 with e1 e2 e3
  subst e1 e2 e3
  refine⟨h1.symm,Nat.le_refl _,fun _=>rfl,none,0,?_,fun i r hi=>?_⟩
  ·rw[if_pos (by omega),litLines_len,h1];simp
  ·have:=litLines_at hi
   rw[List.length_eq_zero_iff.1 h1] at this
   cases this
 ·injection h1 with e1 e2 e3
  subst e1 e2 e3
  refine⟨rfl,h4,fun e=>(by cases e),?_⟩
  by_cases hm:min x.til d.lines.length≤x.fr+1
  ·refine⟨none,0,?_,fun i r hi=>?_⟩
   ·rw[if_pos hm,litLines_len,show min x.til d.lines.length-(x.fr+1)=0 by omega]
   ·have:=(List.getElem?_eq_some_iff.1 hi).1
    rw[litLines_len] at this
    omega
  ·refine⟨some ⟨g,(x.fr+1)*10,none⟩,cl-(x.fr+1),?_,fun i r hi=>⟨g,(x.fr+1)*10,rfl,cell_it h3,fun j u hj hu=>?_⟩⟩
   ·rw[if_neg hm,litLines_len]
    simp[Addr.add]
   ·have hl:=litLines_at hi
    have hll:=(List.getElem?_eq_some_iff.1 hl).1
    have key:=flat_at _ 10 lineC_len d.lines _ r hl j hj
    rw[show (x.fr+1)*10+i*10+j=(x.fr+1+i)*10+j by omega,World.ownsRow.cellAt hr _ (by omega),lnCells,key,hu]
theorem cutGo_snoc (t:Stp) (i:Int): ∀l:List (Stp×Int),(∀q∈l,0≤q.2)→cutGo (l++ [(t,i)])=if cutGo l<0 then(if spL t≠t.length then i else -1) else cutGo l
 | [],_=>by simp[cutGo]
 | (u,j)::l,h=>by
  have h0:=h (u,j) List.mem_cons_self
  have ih:=cutGo_snoc t i l (fun q hq=>h q (List.mem_cons_of_mem _ hq))
  rw[List.cons_append,cutGo,cutGo]
  by_cases hu:spL u≠u.length
  ·rw[if_pos hu,if_pos hu,if_neg (by simp only[] at h0;omega)]
  ·rw[if_neg hu,if_neg hu];exact ih
theorem cutGo_lb: ∀l:List (Stp×Int),(∀q∈l,0≤q.2∧q.2≤1099511627776)→ -1≤cutGo l∧cutGo l≤1099511627776
 | [],_=>by simp[cutGo]
 | (u,j)::l,h=>by
  have h0:=h (u,j) List.mem_cons_self
  have ih:=cutGo_lb l (fun q hq=>h q (List.mem_cons_of_mem _ hq))
  rw[cutGo]
  split
  ·simp only[] at h0;omega
  ·exact ih
theorem OwnsS.snoc {B:Nat}{l:List Stp}{v:Value}{w:World}{t:Stp} (h:w.ownsRow B 9 1 v (l.length+1) (strCells l++(#[Value.string (bs t)]:Array Value).toList)):OwnsS B (l++ [t]) v w:=by
 unfold OwnsS
 rw[List.length_append]
 unfold strCells at h ⊢
 rw[List.map_append]
 exact h
theorem join_nl: ∀l:List Stp,Lib.join l [10]=joinNl l
 | []=>rfl
 | [x]=>Lib.join_one x [10]
 | x::y::r=>by
  have:=join_nl (y::r)
  unfold joinNl
  rw[←this]
  unfold Lib.join
  simp[List.intercalate]
theorem OwnsS.stored {B:Nat}{l:List Stp}{g cap:Nat}{w:World} (h:OwnsS B l (.slice (some ⟨g,0,none⟩) l.length cap) w) (i:Nat) (t:Stp):OwnsS B (l.set i t) (.slice (some ⟨g,0,none⟩) (l.set i t).length cap) (w.setCell ⟨g,i,none⟩ (.string (bs t))):=by
 obtain⟨h1,_⟩:=World.ownsRow.stored h i (.string (bs t))
 unfold OwnsS
 rw[List.length_set]
 unfold strCells at h1 ⊢
 rw[List.map_set]
 exact h1
theorem trimE_iff (t:Stp):Lib.trimLeftB t 32= []↔spL t=t.length:=by
 have hsp:spL t≤t.length:=spL_le t
 rw[←List.length_eq_zero_iff,trim_len t]
 omega
theorem trimE_any (t:Stp) (w:World):Calls Tryz.prog 38 #[.string (bs t), .string ⟨#[32]⟩] w fun e w'=>e= .returned (.string (bs (Lib.trimLeftB t 32)))∧w=w':=by
 have h:=Tryz.strings_TrimLeft_one (bs t) 32 (by decide) w
 rw[bs_data] at h
 exact h.mono fun _ _ ⟨a,b⟩=>⟨a,b.symm⟩
def cutT (c:Nat) (i:Nat) (l:List Stp):List Stp:=(l.take i).map (·.drop c)++l.drop i
theorem cutT_len (c i:Nat) (l:List Stp):(cutT c i l).length=l.length:=by
 unfold cutT
 rw[List.length_append,List.length_map,List.length_take,List.length_drop];omega
theorem cutT_at {c i:Nat}{l:List Stp}{t:Stp} (h:l[i]?=some t):(cutT c i l)[i]?=some t:=by
 have hl:=(List.getElem?_eq_some_iff.1 h).1
 unfold cutT
 rw[List.getElem?_append_right (by simp;omega)]
 simp only[List.length_map,List.length_take]
 rw[List.getElem?_drop,show i+(i-min i l.length)=i by omega]
 exact h
theorem cutT_succ {c i:Nat}{l:List Stp}{t:Stp} (h:l[i]?=some t):cutT c (i+1) l=(cutT c i l).set i (t.drop c):=by
 have hl:=(List.getElem?_eq_some_iff.1 h).1
 have ht:l[i]=t:=(List.getElem?_eq_some_iff.1 h).2
 unfold cutT
 rw[List.take_add_one,h,Option.toList_some,List.map_append,List.append_assoc]
 rw[List.set_append_right _ _ (by simp;omega)]
 simp only[List.length_map,List.length_take]
 rw[show i-min i l.length=0 by omega,List.drop_eq_getElem_cons hl]
 rfl
theorem cutT_all (c:Nat) (l:List Stp):cutT c l.length l=l.map (·.drop c):=by
 unfold cutT
 rw[List.take_length,List.drop_length,List.append_nil]
theorem cutT_zero (c:Nat) (l:List Stp):cutT c 0 l=l:=by simp[cutT]
theorem litTs_len (s:Stp) (ls:List LineR) (x:YND):(litTs s ls x).length=(litLines ls x).length:=by unfold litTs;rw[List.length_map]
theorem bytesI_len (s:Stp) (a b:Int):(bytesI s a b).length≤s.length:=by
 unfold bytesI
 split
 ·exact Nat.zero_le _
 ·exact slI_len _ _ _
theorem joinNl_len (n:Nat): ∀l:List Stp,(∀t∈l,t.length≤n)→(joinNl l).length≤l.length*(n+1)
 | [],_=>by simp[joinNl]
 | [x],h=>by have:=h x List.mem_cons_self;simp only[joinNl,List.length_singleton];omega
 | x::y::r,h=>by
  have h1:=h x List.mem_cons_self
  have ih:=joinNl_len n (y::r) (fun t ht=>h t (List.mem_cons_of_mem _ ht))
  rw[joinNl,List.length_append,List.length_cons,List.length_cons (a:=x),Nat.add_mul,Nat.one_mul]
  omega
theorem yjoin_any {B:Nat}{l:List Stp}{v:Value}{w:World} (h:OwnsS B l v w) (hl:l.length≤131072) (hb: ∀t∈l,t.length≤65536):
    Calls Tryz.prog 39 #[v, .string ⟨#[10]⟩] w fun e w'=>e= .returned (.string (bs (joinNl l)))∧Below w.heap.size w w':=by
  rcases h.2 with⟨h0,h1⟩ | ⟨g,cap,cur,h1,h2,h3,h4,_⟩
  · subst h0
    rw[List.length_eq_zero_iff.1 h1]
    exact(Tryz.strings_Join_none none 0 ⟨#[10]⟩ w).mono (fun e w' ⟨a,b⟩=>⟨a,by rw[b];exact Below.refl _ _⟩)
  · have hr:=h
    unfold OwnsS at hr
    rw[h1] at hr
    subst h1
    have hmap : (l.map bs).map (·.data.toList) = l := by rw[List.map_map];conv=>rhs;rw[←List.map_id l]
                                                         exact List.map_congr_left (fun t _=>bs_data t)
    have hJ:=joinNl_len 65536 l hb
    have hmul:l.length*(65536+1)≤131072*65537:=Nat.mul_le_mul_right _ hl
    have hC:=Tryz.strings_Join g 0 cap (l.map bs) ⟨#[10]⟩ w (fun j x hj=>by
      rw[List.getElem?_map] at hj
      obtain⟨t,ht,rfl⟩:=Option.map_eq_some_iff.1 hj
      have hlt:=(List.getElem?_eq_some_iff.1 ht).1
      rw[Nat.zero_add,World.ownsRow.cellAt hr _ (by omega)]
      unfold strCells
      rw[List.getElem?_map,ht];rfl) (cell_it h3) (by rw[List.length_map];omega) (by rw[List.length_map];exact h4) (by
        rw[hmap,show (⟨#[10]⟩:ByteArray).data.toList= [10] from rfl,join_nl];omega)
    rw[List.length_map,hmap,show (⟨#[10]⟩:ByteArray).data.toList= [10] from rfl,join_nl] at hC
    exact hC
theorem yliteralD_yes (s:Stp) (d:YDoc) (lv nv:Value) (B:Nat) (w:World) (hD:YDocAt B d lv nv w) (hb:DocB s d) (hi64: ∀l∈d.lines,l.ind≤1099511627776) (k:Nat) (x:YND) (hx:d.nodes[k]?=some x) (hk4:x.kind=4):
  Calls Tryz.prog 15 #[.agg #[.string (bs s),lv,nv], .int .i64 (k:Int)] w fun e w'=>e= .returned (.tuple #[.string (bs (litY s d.lines x)), .bool true])∧Below w.heap.size w w':=by
 obtain⟨z,hz,hln,hnd⟩:=hD
 obtain⟨y,hy⟩: ∃y,z[k]?=some y:=by
  rw[←hz,List.getElem?_map] at hx
  cases hq:z[k]? with
  | none=>rw[hq] at hx;cases hx
  | some q=>exact⟨q,rfl⟩
 have hyx:y.1=x:=by
  rw[←hz,List.getElem?_map,hy] at hx
  exact Option.some.inj hx
 obtain⟨gn,cn,cur,rfl,hcn,_,hgn⟩:=hnd.form (fun e=>by rw[e] at hy;cases hy)
 obtain⟨pl,nl,cl,rfl⟩: ∃p n c,lv= .slice p n c:=by
  rcases hln.2 with⟨h0,_⟩ | ⟨g,cap,cur,h1,_⟩
  ·exact⟨none,0,0,h0⟩
  ·exact⟨_,_,_,h1⟩
 have hkm:=hnd.kids y (List.mem_of_getElem? hy)
 obtain⟨pk,ck,hkv⟩: ∃p c,y.2= .slice p y.1.kids.length c:=by
  rcases hkm.2 with⟨h0,h1⟩ | ⟨g,cap,cur,h1,_⟩
  ·exact⟨none,0,by rw[h0,h1]⟩
  ·exact⟨_,cap,h1⟩
 obtain⟨mk,hmk⟩: ∃mk,y.1.kids.length=mk:=⟨_,rfl⟩
 obtain⟨nz,hnz⟩: ∃nz,z.length=nz:=⟨_,rfl⟩
 have hzl:z.length=d.nodes.length:=by rw[←hz,List.length_map]
 have hkz:k<z.length:=(List.getElem?_eq_some_iff.1 hy).1
 rw[hnz]
 have hk0:(0:Int)≤(k:Int):=by omega
 have hk1:(k:Int)<(nz:Int):=by omega
 have dk:decide ((k:Int)<0)=false:=decide_eq_false (by omega)
 have dk2:decide ((nz:Int)≤(k:Int))=false:=decide_eq_false (by omega)
 have dk3:decide (nz≤k)=false:=decide_eq_false (by omega)
 have HC:Hid (∀j u,j<9→(yndCells y)[j]?=some u→w.cell? ⟨gn,k*9+j,none⟩=some u):=hid (fun j u hj hu=>(hnd.at_ hy j hj hu).1)
 obtain⟨hbf,hbt,hbk⟩:=hb.nd x (List.mem_of_getElem? hx)
 rw[hyx] at hmk hkv
 rw[hmk] at hkv
 obtain⟨nll,hlcl,hln0,pr,cr,hrow,hrc⟩:=among_row hln x
 obtain⟨W1,hW1⟩: ∃W,w.alloc (.cells #[.string (bs s), .slice pl nl cl, .slice (some ⟨gn,0,none⟩) nz cn] 26)=W:=⟨_,rfl⟩
 obtain⟨D,hDe⟩: ∃D,w.heap.size=D:=⟨_,rfl⟩
 have b1:Below w.heap.size w W1:=by rw[←hW1];exact below_alloc1 _ _
 have h1:W1.heap[D]?=some (.cells #[.string (bs s), .slice pl nl cl, .slice (some ⟨gn,0,none⟩) nz cn] 26):=by rw[←hW1,←hDe];exact heap_alloc_new w _
 obtain⟨W2,hW2⟩: ∃W,W1.alloc (.cells #[.int .i64 4, .int .i64 x.ind, .int .i64 (x.fr:Int), .int .i64 (x.til:Int), .int .i64 x.kf, .int .i64 x.kt, .int .i64 x.rf, .int .i64 x.rt, .slice pk mk ck] 45)=W:=⟨_,rfl⟩
 obtain⟨X,hXe⟩: ∃S,W1.heap.size=S:=⟨_,rfl⟩
 have b2:Below W1.heap.size W1 W2:=by rw[←hW2];exact below_alloc1 _ _
 have h2:W2.heap[X]?=some (.cells #[.int .i64 4, .int .i64 x.ind, .int .i64 (x.fr:Int), .int .i64 (x.til:Int), .int .i64 x.kf, .int .i64 x.kt, .int .i64 x.rf, .int .i64 x.rt, .slice pk mk ck] 45):=by rw[←hW2,←hXe];exact heap_alloc_new W1 _
 have HB2:=hid (below_of_new b1 b2)
 have hd2:=(b2.block D (cell_it h1)).trans h1
 have HDX:Hid (∀w',Below W2.heap.size W2 w'→w'.heap[D]?=some (.cells #[.string (bs s), .slice pl nl cl, .slice (some ⟨gn,0,none⟩) nz cn] 26)∧w'.heap[X]?=some (.cells #[.int .i64 4, .int .i64 x.ind, .int .i64 (x.fr:Int), .int .i64 (x.til:Int), .int .i64 x.kf, .int .i64 x.kt, .int .i64 x.rf, .int .i64 x.rt, .slice pk mk ck] 45)):=hid (fun w' h=>⟨(h.block D (cell_it hd2)).trans hd2,(h.block X (cell_it h2)).trans h2⟩)
 have ck': ∀j u,j<9→(yndCells y)[j]?=some u→W1.cell? ⟨gn,k*9+j,none⟩=some u:=fun j u hj hu=>by
  exact cell_keepT (HC.out j u hj hu) b1
 have y0:=ck' 0 _ (by omega) rfl
 have y1:=ck' 1 _ (by omega) rfl
 have y2:=ck' 2 _ (by omega) rfl
 have y3:=ck' 3 _ (by omega) rfl
 have y4:=ck' 4 _ (by omega) rfl
 have y5:=ck' 5 _ (by omega) rfl
 have y6:=ck' 6 _ (by omega) rfl
 have y7:=ck' 7 _ (by omega) rfl
 have y8:=ck' 8 _ (by omega) rfl
 rw[hyx] at y0 y1 y2 y3 y4 y5 y6 y7
 rw[hkv] at y8
 rw[hk4] at y0
 simp only[Nat.add_zero] at y0
 obtain⟨d0,d1,d2,_⟩:=box3f h1
 obtain⟨ts,hts⟩: ∃ts,litTs s d.lines x=ts:=⟨_,rfl⟩
 obtain⟨rs,hrs⟩: ∃rs,litLines d.lines x=rs:=⟨_,rfl⟩
 obtain⟨m,hm⟩: ∃m,rs.length=m:=⟨_,rfl⟩
 rw[hrs] at hrow hrc
 rw[hm] at hrow
 have hmb:m≤131072:=by rw[←hm,←hrs,litLines_len];have:=hb.lns;omega
 have hlb:=hb.lns
 have CAm:Hid (∀w',Calls Tryz.prog 36 #[.agg #[.string (bs s), .slice pl nl cl, .slice (some ⟨gn,0,none⟩) nz cn], .agg #[.int .i64 4, .int .i64 x.ind, .int .i64 (x.fr:Int), .int .i64 (x.til:Int), .int .i64 x.kf, .int .i64 x.kt, .int .i64 x.rf, .int .i64 x.rt, .slice pk mk ck]] w' fun e w2=>e= .returned (.slice pr m cr)∧Below w'.heap.size w' w2):=hid (fun w'=>by
  have:=yamong_any s pl nl cl (.slice (some ⟨gn,0,none⟩) nz cn) ⟨_,_,_,rfl⟩ x (.slice pk mk ck) ⟨_,_,_,rfl⟩ w' (by omega) hlcl hln0 hbf hbt
  rw[hrow] at this
  unfold yndV at this
  rw[hk4] at this
  exact this.mono (fun e w2 h=>⟨h.2,h.1⟩))
 have CBy:Hid (∀(a b:Int) w',Calls Tryz.prog 37 #[.agg #[.string (bs s), .slice pl nl cl, .slice (some ⟨gn,0,none⟩) nz cn], .agg #[.int .i64 a, .int .i64 b]] w' fun e w2=>e= .returned (.string (bs (bytesI s a b)))∧Below w'.heap.size w' w2):=hid (fun a b w'=>ydbytes_any s _ _ ⟨_,_,_,rfl⟩ ⟨_,_,_,rfl⟩ a b w' (by have:=hb.txt;omega))
 have HRC:Hid (∀w',Below W2.heap.size W2 w'→ ∀(i:Nat) (r:LineR),rs[i]?=some r→ ∃g o,pr=some ⟨g,o,none⟩∧ ∀j u,j<10→(lineC r)[j]?=some u→w'.cell? ⟨g,o+i*10+j,none⟩=some u):=hid (fun w' h i r hi=>by
  obtain⟨g,o,e1,e2,e3⟩:=hrc i r hi
  exact⟨g,o,e1,fun j u hj hu=>cell_keepT (cell_keepT (e3 j u hj hu) HB2.out) h⟩)
 have htl:ts.length=m:=by rw[←hts,litTs_len,hrs,hm]
 have hta: ∀(i:Nat) (r:LineR),rs[i]?=some r→ts[i]?=some (bytesI s r.sf r.st,r.ind):=fun i r hi=>by
  rw[←hts];unfold litTs;rw[List.getElem?_map,hrs,hi];rfl
 have hti: ∀q∈ts,0≤q.2∧q.2≤1099511627776:=fun q hq=>by
  rw[←hts] at hq
  unfold litTs at hq
  obtain⟨r,hr,rfl⟩:=List.mem_map.1 hq
  have hrl:r∈d.lines:=by unfold litLines at hr;exact List.mem_of_mem_take (List.mem_of_mem_drop hr)
  exact⟨hb.ind r hrl,hi64 r hrl⟩
 have htb: ∀q∈ts,q.1.length≤65536:=fun q hq=>by
  rw[←hts] at hq
  unfold litTs at hq
  obtain⟨r,hr,rfl⟩:=List.mem_map.1 hq
  have:=bytesI_len s r.sf r.st
  have:=hb.txt
  simp only[]
  omega
 obtain⟨Y,hY⟩: ∃Y,litY s d.lines x=Y:=⟨_,rfl⟩
 have HY:=hid hY
 rw[hY]
 unfold litY at hY
 rw[hts] at hY
 have HT:=hid (And.intro htl (And.intro hta (And.intro hti htb)))
 have HYR:=hid hY
 obtain⟨i0,hi0,hz0,hz1,hz2⟩:=info_parts Tryz.infoString
 have HM:=hid (And.intro hm hrs)
 have HKX:=hid hk4
 have HBn:=hid hb
 clear nll hnz hlb hlcl hln0 hrow hrc htl hta hti htb hts hrs hm hY hz hln hnd hkm hkv hmk hx hy hyx h1 h2 b1 b2 hd2 hzl hkz hgn hcn hi64 ck' hk4 hb
 go_enter Tryz.func15,Tryz.ntmps15
 go_upto_region 1 with fail
 clear hW1
 go_upto_region 3 with fail
 go_upto_region 4 with fail
 clear hW2
 clear y0 y1 y2 y3 y4 y5 y6 y7 y8 d0 d1 d2
 obtain⟨hd2,hx2⟩:=HDX.out W2 (Below.refl _ _)
 obtain⟨d0,d1,d2,_⟩:=box3f hd2
 obtain⟨n0,n1,n2,n3,n4,n5,n6,n7,n8⟩:=box9 hx2
 have hDl:D<W2.heap.size:=cell_it hd2
 have hXl:X<W2.heap.size:=cell_it hx2
 clear hd2 hx2
 go_wp2_with fail
 refine(CAm.out _).mono ?_
 rintro e w3 ⟨rfl,hb3⟩
 have HB3:Hid (Below W2.heap.size W2 w3):=hid (by first | exact hb3 | exact below_of_new (Below.refl _ _).drew hb3)
 clear hb3 n0 n1 n2 n3 n4 n5 n6 n7 n8 d0 d1 d2
 go_wp2_with fail
 go_loopw [42,7,8] (fun s42 s7 s8 wr=> ∃i:Nat,s42= .int .i64 (i:Int)∧i≤m∧s7= .int .i64 (cutGo (ts.take i))∧Hid (OwnsS W2.heap.size ((ts.take i).map (·.1)) s8 wr)∧Hid (Below W2.heap.size W2 wr)) (fun s42 _ _ _=>m-(RowKit.intOf s42).toNat)
 case atStart=>exact⟨0,rfl,Nat.zero_le _,rfl,hid (OwnsS.nil _ _),HB3⟩
 case round=>
  clear HB3
  obtain⟨i,rfl,hi,rfl,HO,HBr⟩:=hrel
  by_cases him:i<m
  ·have dk:decide ((i:Int)<(m:Int))=true:=decide_eq_true (by omega)
   obtain⟨r,hr⟩: ∃r,rs[i]?=some r:=⟨_,List.getElem?_eq_getElem (by have:=HM.out.1;omega)⟩
   obtain⟨g,o,rfl,hcell⟩:=HRC.out wr HBr.out i r hr
   have g0:=hcell 0 _ (by omega) rfl
   have g1:=hcell 1 _ (by omega) rfl
   have g2:=hcell 2 _ (by omega) rfl
   have g3:=hcell 3 _ (by omega) rfl
   have g4:=hcell 4 _ (by omega) rfl
   have g5:=hcell 5 _ (by omega) rfl
   have g6:=hcell 6 _ (by omega) rfl
   have g7:=hcell 7 _ (by omega) rfl
   have g8:=hcell 8 _ (by omega) rfl
   have g9:=hcell 9 _ (by omega) rfl
   simp only[Nat.add_zero] at g0
   have hii0:(0:Int)≤(i:Int):=by omega
   have hii1:(i:Int)<(m:Int):=by omega
   obtain⟨i1,hi1e⟩: ∃i1,i+1=i1:=⟨_,rfl⟩
   have hi1z:(i:Int)+1=(i1:Int):=by omega
   have hi1m:i1≤m:=by omega
   have hta:=HT.out.2.1 i r hr
   obtain⟨t,ht⟩: ∃t,bytesI s r.sf r.st=t:=⟨_,rfl⟩
   have CB:=hid (fun w'=>CBy.out r.sf r.st w')
   rw[ht] at CB hta
   have htk:ts.take i1=ts.take i++ [(t,r.ind)]:=by rw[←hi1e,List.take_add_one,hta];rfl
   have hcs:=cutGo_snoc t r.ind (ts.take i) (fun q hq=>(HT.out.2.2.1 q (List.mem_of_mem_take hq)).1)
   rw[←htk] at hcs
   have HTL:Hid (((ts.take i).map (·.1)).length=i):=hid (by rw[List.length_map,List.length_take,HT.out.1];omega)
   have HTK:Hid ((ts.take i1).map (·.1)=(ts.take i).map (·.1)++ [t]):=hid (by rw[htk,List.map_append];rfl)
   obtain⟨c,hc⟩: ∃c,cutGo (ts.take i)=c:=⟨_,rfl⟩
   have HCB:=hid (cutGo_lb (ts.take i) (fun q hq=>HT.out.2.2.1 q (List.mem_of_mem_take hq)))
   rw[hc] at hcs HCB
   have HCS:=hid hcs
   have b10:=below_alloc1 wr (.cells (lineA r) 51)
   have h10:=heap_alloc_new wr (.cells (lineA r) 51)
   obtain⟨X10,hX10⟩: ∃X,wr.heap.size=X:=⟨_,rfl⟩
   obtain⟨W3,hW3⟩: ∃W,wr.alloc (.cells (lineA r) 51)=W:=⟨_,rfl⟩
   rw[hW3] at b10 h10
   rw[hX10] at h10
   have HB13:=hid b10
   have H10:=hid h10
   unfold lineA at hW3
   obtain⟨hd3,hx3⟩:=HDX.out W3 (HBr.out.trans (b10.mono HBr.out.size))
   obtain⟨d0,d1,d2,_⟩:=box3f hd3
   have hlz:LineBox W3 X10 r:=h10
   obtain⟨l0,l1,l2,l3,l4,l5,l6,l7,l8,l9,_⟩:=hlz.cells
   rw[hc]
   have CT:=hid (fun w'=>trimE_any t w')
   obtain⟨q,hq⟩: ∃q,Lib.trimLeftB t 32=q:=⟨_,rfl⟩
   have hqi:=trimE_iff t
   rw[hq] at CT hqi
   have HQI:=hid hqi
   clear hcell hr hta htk hcs hc b10 h10 hd3 hx3 hlz hq hqi ht hi1e
   go_upto_region 9 with fail
   clear hW3 hX10 g0 g1 g2 g3 g4 g5 g6 g7 g8 g9
   go_wp2_with fail
   refine(CB.out _).mono ?_
   rintro e w5 ⟨rfl,hb5⟩
   have HB5:Hid (Below W3.heap.size W3 w5):=hid (by first | exact hb5 | exact below_of_new (Below.refl _ _).drew hb5)
   clear hb5 l0 l1 l2 l3 l4 l5 l6 l7 l8 l9 d0 d1 d2
   have hlz5:LineBox w5 X10 r:=(HB5.out.block X10 (cell_it H10.out)).trans H10.out
   obtain⟨_,_,_,l3,_⟩:=hlz5.cells
   have HO5:Hid (w5.ownsRow W2.heap.size 9 1 u8 i (strCells ((ts.take i).map (·.1)))):=hid (by
    have:=(HO.out.keep HB13.out).keep HB5.out
    unfold OwnsS at this
    rw[HTL.out] at this
    exact this)
   clear hlz5
   by_cases hc0:c<0
   ·have dc:decide (c<0)=true:=decide_eq_true hc0
    have hcs:=HCS.out
    rw[if_pos hc0] at hcs
    by_cases hq0:q= []
    ·have e0:((bs q).toList== [])=true:=by rw[hq0];exact str_nil []
     have e0b:(bs q).toList.isEmpty=true:=by rw[hq0];exact str_nil2 []
     rw[if_neg (fun h=>h (HQI.out.1 hq0))] at hcs
     have hcm:c= -1:=by have:=HCB.out;omega
     clear hc0 hq0
     have hsz5:W2.heap.size≤w5.heap.size:=Nat.le_trans HBr.out.size (Nat.le_trans HB13.out.size HB5.out.size)
     go_wp2_with (first | (go_at_call 38;refine(CT.out _).mono ?_;rintro e w6 ⟨rfl,rfl⟩) | (at_builtin;go_must (refine wpList_push rfl _ _ 33 rfl W2.heap.size 9 i0 _ 1 16 Tryz.underlying33 hi0 hz0 hz1 hz2 rfl (by decide) w5 u8 i (strCells ((ts.take i).map (·.1))) rfl HO5.out #[.string (bs t)] rfl rfl (by simp[Value.oneCell']) (by omega) (by decide) hsz5 ?_);intro v1 w7 hown7 hsz7 hbel7 hkeep7 hne7))
     have HOn:Hid (OwnsS W2.heap.size ((ts.take i1).map (·.1)) v1 w7):=hid (by rw[HTK.out];exact OwnsS.snoc (by rw[HTL.out];exact hown7))
     have HBn:Hid (Below W2.heap.size W2 w7):=hid ((HBr.out.trans ((HB13.out.trans (HB5.out.mono HB13.out.size)).mono HBr.out.size)).trans hbel7)
     go_roundw
     ·exact⟨i1,by rw[←hi1z],hi1m,by rw[hcs],HOn,HBn⟩
     ·simp only[RowKit.intOf];omega
    ·have e0:((bs q).toList== [])=false:=by rw[str_nil];cases q<;>simp at hq0 ⊢
     have e0b:(bs q).toList.isEmpty=false:=by rw[str_nil2];cases q<;>simp at hq0 ⊢
     rw[if_pos (fun h=>hq0 (HQI.out.2 h))] at hcs
     clear hc0 hq0
     have hsz5:W2.heap.size≤w5.heap.size:=Nat.le_trans HBr.out.size (Nat.le_trans HB13.out.size HB5.out.size)
     go_wp2_with (first | (go_at_call 38;refine(CT.out _).mono ?_;rintro e w6 ⟨rfl,rfl⟩) | (at_builtin;go_must (refine wpList_push rfl _ _ 33 rfl W2.heap.size 9 i0 _ 1 16 Tryz.underlying33 hi0 hz0 hz1 hz2 rfl (by decide) w5 u8 i (strCells ((ts.take i).map (·.1))) rfl HO5.out #[.string (bs t)] rfl rfl (by simp[Value.oneCell']) (by omega) (by decide) hsz5 ?_);intro v1 w7 hown7 hsz7 hbel7 hkeep7 hne7))
     have HOn:Hid (OwnsS W2.heap.size ((ts.take i1).map (·.1)) v1 w7):=hid (by rw[HTK.out];exact OwnsS.snoc (by rw[HTL.out];exact hown7))
     have HBn:Hid (Below W2.heap.size W2 w7):=hid ((HBr.out.trans ((HB13.out.trans (HB5.out.mono HB13.out.size)).mono HBr.out.size)).trans hbel7)
     go_roundw
     ·exact⟨i1,by rw[←hi1z],hi1m,by rw[hcs],HOn,HBn⟩
     ·simp only[RowKit.intOf];omega
   ·have dc:decide (c<0)=false:=decide_eq_false hc0
    have hcs:=HCS.out
    rw[if_neg hc0] at hcs
    clear hc0
    have hsz5:W2.heap.size≤w5.heap.size:=Nat.le_trans HBr.out.size (Nat.le_trans HB13.out.size HB5.out.size)
    go_wp2_with (first | (fail) | (at_builtin;go_must (refine wpList_push rfl _ _ 33 rfl W2.heap.size 9 i0 _ 1 16 Tryz.underlying33 hi0 hz0 hz1 hz2 rfl (by decide) w5 u8 i (strCells ((ts.take i).map (·.1))) rfl HO5.out #[.string (bs t)] rfl rfl (by simp[Value.oneCell']) (by omega) (by decide) hsz5 ?_);intro v1 w7 hown7 hsz7 hbel7 hkeep7 hne7))
    have HOn:Hid (OwnsS W2.heap.size ((ts.take i1).map (·.1)) v1 w7):=hid (by rw[HTK.out];exact OwnsS.snoc (by rw[HTL.out];exact hown7))
    have HBn:Hid (Below W2.heap.size W2 w7):=hid ((HBr.out.trans ((HB13.out.trans (HB5.out.mono HB13.out.size)).mono HBr.out.size)).trans hbel7)
    go_roundw
    ·exact⟨i1,by rw[←hi1z],hi1m,by rw[hcs],HOn,HBn⟩
    ·simp only[RowKit.intOf];omega
  ·obtain rfl:i=m:=by omega
   have dk:decide ((i:Int)<(i:Int))=false:=decide_eq_false (by omega)
   have htt:ts.take i=ts:=by rw[←HT.out.1,List.take_length]
   obtain⟨tl,htl⟩: ∃tl,ts.map (·.1)=tl:=⟨_,rfl⟩
   obtain⟨c,hc⟩: ∃c,cutGo ts=c:=⟨_,rfl⟩
   have hO:=HO.out
   rw[htt,htl] at hO
   rw[htt,hc]
   have htll:tl.length=i:=by rw[←htl,List.length_map];exact HT.out.1
   have hcb:=cutGo_lb ts HT.out.2.2.1
   rw[hc] at hcb
   have htbd: ∀t∈tl,t.length≤65536:=fun t ht=>by
    rw[←htl] at ht
    obtain⟨q,hq,rfl⟩:=List.mem_map.1 ht
    exact HT.out.2.2.2 q hq
   obtain⟨C,hC⟩: ∃C,c.toNat=C:=⟨_,rfl⟩
   have hmx:max c 0=(C:Int):=by omega
   obtain⟨pu,cu,hu8⟩:=hO.slice
   rw[htll] at hu8
   subst hu8
   have HTl:=hid (And.intro htll (And.intro htbd htl))
   have HCc:=hid (And.intro hc hC)
   have HO0:Hid (OwnsS W2.heap.size (cutT C 0 tl) (.slice pu i cu) wr):=hid (by rw[cutT_zero];exact hO)
   clear hO HO htt hc htl htll htbd hC
   go_wp2_with fail
   go_loopw [66,12,13] (fun s66 s12 s13 wx=> ∃j:Nat,s66= .int .i64 (j:Int)∧j≤i∧Hid (OwnsS W2.heap.size (cutT C j tl) (.slice pu i cu) wx)∧Hid (Below W2.heap.size W2 wx)) (fun s66 _ _ _=>i-(RowKit.intOf s66).toNat)
   case atStart=>exact⟨0,rfl,Nat.zero_le _,HO0,HBr⟩
   case round=>
    clear HO0 HBr
    obtain⟨j,rfl,hj,HO,HBr⟩:=hrel
    by_cases hji:j<i
    ·have dj:decide ((j:Int)<(i:Int))=true:=decide_eq_true (by omega)
     have hj0:(0:Int)≤(j:Int):=by omega
     have hj1:(j:Int)<(i:Int):=by omega
     obtain⟨t,ht⟩: ∃t,tl[j]?=some t:=⟨_,List.getElem?_eq_getElem (by rw[HTl.out.1];exact hji)⟩
     have hct:=cutT_at (c:=C) ht
     have hO:=HO.out
     obtain⟨g,rfl,hgW⟩: ∃g,pu=some ⟨g,0,none⟩∧W2.heap.size≤g:=by
      rcases hO.2 with⟨h0,h1⟩ | ⟨g,cap,cur,h1,h2,_⟩
      ·rw[cutT_len,HTl.out.1] at h1;omega
      ·injection h1 with e1;exact⟨g,e1,h2⟩
     have hlen:(cutT C j tl).length=i:=by rw[cutT_len];exact HTl.out.1
     have hO1:OwnsS W2.heap.size (cutT C j tl) (.slice (some ⟨g,0,none⟩) (cutT C j tl).length cu) wr:=by rw[hlen];exact hO
     have hcell:wr.cell? ⟨g,j,none⟩=some (.string (bs t)):=by
      rw[World.ownsRow.cellAt hO1 _ (by rw[hlen];omega)]
      unfold strCells
      rw[List.getElem?_map,hct];rfl
     have hfz:wr.frozen? ⟨g,j,none⟩=false:=World.ownsRow.frozenAt hO1 _
     have hst:=hO1.stored j (t.drop C)
     rw[←cutT_succ ht] at hst
     have hlen2:(cutT C (j+1) tl).length=i:=by rw[cutT_len];exact HTl.out.1
     rw[hlen2] at hst
     have htb:=HTl.out.2.1 t (List.mem_of_getElem? ht)
     obtain⟨e,he⟩: ∃e,min C t.length=e:=⟨_,rfl⟩
     have hmn:min (C:Int) (t.length:Int)=(e:Int):=by omega
     have hel:e≤t.length:=by omega
     have hex:(bs t).extract e t.length=bs (t.drop C):=by
      rw[bs_extract,bs_data]
      congr 1
      rw[←he]
      by_cases hle:C≤t.length
      ·rw[Nat.min_eq_left hle,List.take_of_length_le (by rw[List.length_drop];exact Nat.le_refl _)]
      ·rw[Nat.min_eq_right (by omega),List.drop_length,List.drop_eq_nil_of_le (by omega)]
       simp
     have hsz:=bs_size t
     have he1:(e:Int)≤(t.length:Int):=by omega
     have he0:(0:Int)≤(e:Int):=by omega
     obtain⟨j1,hj1e⟩: ∃j1,j+1=j1:=⟨_,rfl⟩
     have hj1z:(j:Int)+1=(j1:Int):=by omega
     rw[hj1e] at hst
     have HST:=hid hst
     have HBn:=hid (HBr.out.setCell (p:=⟨g,j,none⟩) hgW (.string (bs (t.drop C))))
     clear ht hct hO hlen hO1 hst hlen2 he hj1e
     go_wp2_with fail
     go_roundw
     ·exact⟨j1,rfl,by omega,HST,HBn⟩
     ·simp only[RowKit.intOf];omega
    ·obtain rfl:j=i:=by omega
     have dj:decide ((j:Int)<(j:Int))=false:=decide_eq_false (by omega)
     have hO:OwnsS W2.heap.size (tl.map (·.drop C)) (.slice pu j cu) wr:=by
      have:=HO.out
      rw[show cutT C j tl=tl.map (·.drop C) by rw[←HTl.out.1,cutT_all]] at this
      exact this
     obtain⟨J,hJ⟩: ∃J,joinNl (tl.map (·.drop C))=J:=⟨_,rfl⟩
     have hb2: ∀t∈tl.map (·.drop C),t.length≤65536:=fun t ht=>by
      obtain⟨q,hq,rfl⟩:=List.mem_map.1 ht
      have:=HTl.out.2.1 q hq
      simp only[List.length_drop];omega
     have hlj:(tl.map (·.drop C)).length=j:=by rw[List.length_map];exact HTl.out.1
     have hJl:=joinNl_len 65536 _ hb2
     rw[hJ,hlj] at hJl
     have hmul:j*(65536+1)≤131072*65537:=Nat.mul_le_mul_right _ hmb
     have hJsz:=bs_size J
     have CJ:Hid (∀w',Below wr.heap.size wr w'→Calls Tryz.prog 39 #[.slice pu j cu, .string ⟨#[10]⟩] w' fun e w2=>e= .returned (.string (bs J))∧Below w'.heap.size w' w2):=hid (fun w' hb=>by
      have:=yjoin_any (hO.keep hb) (by rw[hlj];exact hmb) hb2
      rw[hJ] at this
      exact this)
     have hYR:=HYR.out
     rw[show (ts.map fun t=>t.1.drop (cutGo ts).toNat)=tl.map (·.drop C) by rw[←HTl.out.2.2,List.map_map,HCc.out.1,HCc.out.2];rfl,hJ] at hYR
     have HYR2:=hid hYR
     obtain⟨hd2,hx2⟩:=HDX.out wr HBr.out
     have HBw:Hid (Below w.heap.size w wr):=hid (HB2.out.trans (HBr.out.mono HB2.out.size))
     clear hO hJ hb2 hlj hmul hYR HYR HO hd2 hx2
     have hJl2:J.length≤8590065664:=by omega
     go_wp2_with fail
     refine(CJ.out _ (by first | exact Below.refl _ _ | exact(Below.refl _ _).drew)).mono ?_
     rintro e w6 ⟨rfl,hb6⟩
     have HB6:Hid (Below wr.heap.size wr w6):=hid (by first | exact hb6 | exact below_of_new (Below.refl _ _).drew hb6)
     obtain⟨hd2,hx2⟩:=HDX.out w6 (HBr.out.trans (HB6.out.mono HBr.out.size))
     obtain⟨d0,d1,d2,_⟩:=box3f hd2
     obtain⟨n0,n1,n2,n3,n4,n5,n6,n7,n8⟩:=box9 hx2
     have HBe:Hid (Below w.heap.size w w6):=hid (HBw.out.trans (HB6.out.mono HBw.out.size))
     clear hb6 hd2 hx2
     by_cases hj0:j=0
     ·subst hj0
      have hYR:=HYR2.out
      rw[if_neg (fun e=>e.1 (List.length_eq_zero_iff.1 HT.out.1)),List.append_nil] at hYR
      have HF:=hid hYR
      clear hYR
      go_wp2_with fail
      go_ret2
      rw[←HF.out]
      exact⟨rfl,by first | exact HBe.out | exact HBe.out.drew⟩
     ·have dj2:decide ((0:Int)<(j:Int))=true:=decide_eq_true (by omega)
      have dj3:decide (0<j)=true:=decide_eq_true (by omega)
      have hne:ts≠ []:=fun e=>hj0 (by rw[←HT.out.1,e];rfl)
      obtain⟨rb,hrb⟩: ∃rb,bytesI s x.rf x.rt=rb:=⟨_,rfl⟩
      have CR:=hid (fun w'=>CBy.out x.rf x.rt w')
      have hYR:=HYR2.out
      rw[hrb] at CR hYR
      by_cases hrb2:rb= [124]
      ·rw[if_pos ⟨hne,hrb2⟩] at hYR
       have e1:=str_is hrb2
       have HF:=hid hYR
       have hcat:bs J++⟨#[10]⟩=bs (J++ [10]):=(bs_append J [10]).symm
       clear hYR hne hrb hrb2
       go_wp2_with fail
       refine(CR.out _).mono ?_
       rintro e w7 ⟨rfl,hb7⟩
       have HB7:Hid (Below w6.heap.size w6 w7):=hid (by first | exact hb7 | exact below_of_new (Below.refl _ _).drew hb7)
       clear hb7
       go_wp2_with fail
       go_ret2
       rw[←HF.out]
       exact⟨rfl,below_of_new HBe.out HB7.out⟩
      ·rw[if_neg (fun e=>hrb2 e.2),List.append_nil] at hYR
       have e1:=str_isnt hrb2
       have HF:=hid hYR
       clear hYR hne hrb hrb2
       go_wp2_with fail
       refine(CR.out _).mono ?_
       rintro e w7 ⟨rfl,hb7⟩
       have HB7:Hid (Below w6.heap.size w6 w7):=hid (by first | exact hb7 | exact below_of_new (Below.refl _ _).drew hb7)
       clear hb7
       go_wp2_with fail
       go_ret2
       rw[←HF.out]
       exact⟨rfl,below_of_new HBe.out HB7.out⟩
end Go.Proofs.YtlibkhbachmcgaaGreatDoor
