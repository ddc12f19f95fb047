import Derived.Test.YtlibkhbachmcgaaGreatDoorRe28
import Derived.Test.YtlibkhbachmcgaaGreatDoorRe1
import Derived.Test.YtlibkhbachmcgaaGreatDoorRe27
import Derived.Test.YtlibkhbachmcgaaGreatDoorRe13
import Derived.Test.YtlibkhbachmcgaaGreatDoorRe5
set_option maxRecDepth 100000
set_option maxHeartbeats 4000000
namespace Go.Proofs.YtlibkhbachmcgaaGreatDoor
set_option linter.unusedSimpArgs false
set_option linter.unusedVariables false
open Go.Lib hiding intOf
def splitL:Stp→List Stp
 | []=> [[]]
 | c::r=>if c=10 then []::splitL r else match splitL r with
  | []=> [[c]]
  | x::l=>(c::x)::l
theorem splitL_ne: ∀s,splitL s≠ []
 | []=>by simp[splitL]
 | c::r=>by
  unfold splitL
  split
  ·simp
  ·split<;>simp
theorem splitL_join: ∀s,joinNl (splitL s)=s
 | []=>rfl
 | c::r=>by
  have ih:=splitL_join r
  have hne:=splitL_ne r
  unfold splitL
  split
  ·rename_i hc
   cases hr:splitL r with
   | nil=>exact absurd hr hne
   | cons x l=>
    rw[hr] at ih
    show []++10::joinNl (x::l)=c::r
    rw[ih,hc]
    rfl
  ·cases hr:splitL r with
   | nil=>exact absurd hr hne
   | cons x l=>
    rw[hr] at ih
    simp only[]
    cases l with
    | nil=>show c::x=c::r;rw[←ih];rfl
    | cons y l=>show (c::x)++10::joinNl (y::l)=c::r;rw[←ih];rfl
theorem splitL_no10: ∀s,∀x∈splitL s,x.contains 10=false
 | [],x,hx=>by rw[show splitL []= [[]] from rfl,List.mem_singleton] at hx;rw[hx];rfl
 | c ::r,x,hx=>by
  have ih:=splitL_no10 r
  have hne:=splitL_ne r
  unfold splitL at hx
  split at hx
  ·rcases List.mem_cons.1 hx with e | hx
   ·rw[e];rfl
   ·exact ih x hx
  ·rename_i hc
   cases hr:splitL r with
   | nil=>exact absurd hr hne
   | cons y l=>
    rw[hr] at hx ih
    simp only[] at hx
    rcases List.mem_cons.1 hx with e | hx
    ·rw[e,List.contains_cons,ih y (List.mem_cons_self ..)]
     have:(10==c)=false:=beq_eq_false_iff_ne.2 (fun e=>hc e.symm)
     rw[this];rfl
    ·exact ih x (List.mem_cons_of_mem _ hx)
theorem lines_join (S:Stp): ∀(Ls:List Stp) (pos:Nat),Ls≠ []→(∀x∈Ls,x.contains 10=false)→S.drop pos=joinNl Ls→(cutSp (linesL (joinNl Ls) pos pos)).map (lineT S)=Ls
 | [],_,h,_,_=>absurd rfl h
 | [x],pos,_,hn,hd=>by
  rw[show joinNl [x]=x from rfl] at hd ⊢
  rw[linesL_last x pos pos (hn x (List.mem_singleton_self _))]
  show [lineT S (pos,pos+x.length)]= [x]
  unfold lineT
  rw[hd,show pos+x.length-pos=x.length by omega,List.take_length]
 | x::y::r,pos,_,hn,hd=>by
  rw[show joinNl (x::y::r)=x++10::joinNl (y::r) from rfl] at hd ⊢
  rw[linesL_run x _ pos pos (hn x (List.mem_cons_self ..)),cutSp_cons _ (linesL_ne' _ _ _),List.map_cons]
  have h2:S.drop (pos+x.length+1)=joinNl (y::r):=by
   rw[show pos+x.length+1=pos+(x.length+1) by omega,←List.drop_drop,hd,←List.drop_drop,List.drop_left]
   rfl
  rw[lines_join S (y::r) (pos+x.length+1) (by simp) (fun z hz=>hn z (List.mem_cons_of_mem _ hz)) h2]
  congr 1
  unfold lineT
  simp only[]
  rw[hd,show pos+x.length+1-1-pos=x.length by omega,List.take_left]
theorem spY_texts (Ls:List Stp) (h:Ls≠ []) (hn: ∀x∈Ls,x.contains 10=false):(spY (joinNl Ls)).map (lineT (joinNl Ls))=Ls:=lines_join _ Ls 0 h hn (by rw[List.drop_zero])
theorem spY_text {Ls:List Stp}{s:Stp} (hs:s=joinNl Ls) (h:Ls≠ []) (hn: ∀x∈Ls,x.contains 10=false):(spY s).length=Ls.length∧ ∀j,j<Ls.length→lineT s (spAt (spY s) j)=Ls[j]?.getD []:=by
 have e:=spY_texts Ls h hn
 rw[←hs] at e
 have hl:(spY s).length=Ls.length:=by rw[←e,List.length_map]
 refine⟨hl,fun j hj=>?_⟩
 have h1:((spY s).map (lineT s))[j]?=Ls[j]?:=by rw[e]
 rw[List.getElem?_map,List.getElem?_eq_getElem (show j<(spY s).length by omega)] at h1
 unfold spAt
 rw[List.getElem?_eq_getElem (show j<(spY s).length by omega),←h1]
 rfl
def movedL (m:Nat) (s:Stp):Stp:=List.replicate m 32++s.flatMap fun c=>if c=10 then 10::List.replicate m 32 else [c]
theorem flat_no10 (m:Nat): ∀x:Stp,x.contains 10=false→(x.flatMap fun c=>if c=10 then 10::List.replicate m (32:UInt8) else [c])=x
 | [],_=>rfl
 | c::r,h=>by
  rw[List.contains_cons,Bool.or_eq_false_iff] at h
  have hc: ¬c=10:=fun e=>by rw[e] at h;simp at h
  rw[List.flatMap_cons,if_neg hc,flat_no10 m r h.2]
  rfl
theorem moved_join (m:Nat): ∀Ls:List Stp,Ls≠ []→(∀x∈Ls,x.contains 10=false)→movedL m (joinNl Ls)=joinNl (Ls.map fun x=>List.replicate m 32++x)
 | [],h,_=>absurd rfl h
 | [x],_,hn=>by
  show movedL m x=List.replicate m 32++x
  unfold movedL
  rw[flat_no10 m x (hn x (List.mem_singleton_self _))]
 | x::y::r,_,hn=>by
  have ih:=moved_join m (y::r) (by simp) (fun z hz=>hn z (List.mem_cons_of_mem _ hz))
  show movedL m (x++10::joinNl (y::r))=(List.replicate m 32++x)++10::joinNl ((y::r).map fun x=>List.replicate m 32++x)
  rw[←ih]
  unfold movedL
  rw[List.flatMap_append,flat_no10 m x (hn x (List.mem_cons_self ..)),List.flatMap_cons,if_pos rfl]
  simp
theorem rep_line10 (m:Nat) {x:Stp} (h:x.contains 10=false):(List.replicate m 32++x:Stp).contains 10=false:=by rw[rep_no10];exact h
theorem sm_moved (m:Nat) (s:Stp):Sm m 0 s (movedL m s) (spY s) (spY (movedL m s)):=by
 have hne:=splitL_ne s
 have hno:=splitL_no10 s
 have hj:=splitL_join s
 obtain⟨l1,t1⟩:=spY_text hj.symm hne hno
 have hm:movedL m s=joinNl ((splitL s).map fun x=>List.replicate m 32++x):=by
  have:=moved_join m (splitL s) hne hno
  rw[hj] at this
  exact this
 obtain⟨l2,t2⟩:=spY_text hm (by simp[hne]) (fun x hx=>by
  obtain⟨y,hy,e⟩:=List.mem_map.1 hx
  rw[←e]
  exact rep_line10 m (hno y hy))
 rw[List.length_map] at l2 t2
 refine⟨spY_ok s,spY_ok _,spY_end s,spY_end _,by omega,fun j hj=>?_,fun j h1 h2=>by omega,fun ind til first=>?_⟩
 ·rw[Nat.zero_add,t2 j (by omega),t1 j (by omega),List.getElem?_map,List.getElem?_eq_getElem (by omega)]
  rfl
 ·left
  rw[Nat.zero_add,List.drop_of_length_le (by omega)]
  rfl
theorem moved_len (m:Nat): ∀s:Stp,(movedL m s).length≤m+s.length*(m+1):=by
 intro s
 have: ∀s:Stp,(s.flatMap fun c=>if c=10 then 10::List.replicate m (32:UInt8) else [c]).length≤s.length*(m+1):=by
  intro s
  induction s with
  | nil=>exact Nat.zero_le _
  | cons c r ih=>
   rw[List.flatMap_cons,List.length_append,List.length_cons,Nat.succ_mul]
   have:(if c=10 then 10::List.replicate m (32:UInt8) else [c]).length≤m+1:=by split<;>simp
   omega
 unfold movedL
 rw[List.length_append,List.length_replicate]
 have:=this s
 omega
theorem parse_whole {s:Stp} (h:s.length≤65536):parseYm s=ymWhole s (spY s):=by unfold parseYm;rw[if_neg (by omega)]
theorem no_front {s':Stp}{sp':List (Nat×Nat)}: ∀j,j<0→(lnL s' sp' j).2.2=0∧contentB (lnL s' sp' j).1=false:=fun j h=>absurd h (Nat.not_lt_zero _)
theorem moves1 (m:Nat) (s:Stp) (hm:m≤7) (hs:s.length≤2048):(parseYm (movedL m s)).2.2=(parseYm s).2.2∧((parseYm s).2.2=0→nodeYv (movedL m s) (parseYm (movedL m s)).1 32 0=nodeYv s (parseYm s).1 32 0):=by
 have hl:=moved_len m s
 have hl2:s.length*(m+1)≤2048*8:=Nat.mul_le_mul hs (by omega)
 rw[parse_whole (s:=s) (by omega),parse_whole (s:=movedL m s) (by omega)]
 have H:=sm_moved m s
 have hw:=whole_sim H no_front
 have he0:E0 0 (spY s) (spY (movedL m s)):=by
  have:=H.len
  unfold E0
  apply Classical.byContradiction
  intro hn
  have h1:=H.ext (spY s).length (by omega) (by omega)
  have:=spY_text (splitL_join s).symm (splitL_ne s) (splitL_no10 s)
  have h2:=moved_join m (splitL s) (splitL_ne s) (splitL_no10 s)
  rw[splitL_join] at h2
  have h3:=(spY_text h2 (by simp[splitL_ne]) (fun x hx=>by
   obtain⟨y,hy,e⟩:=List.mem_map.1 hx
   rw[←e]
   exact rep_line10 m (splitL_no10 s y hy))).1
  rw[List.length_map] at h3
  omega
 obtain⟨w1,w2⟩:=hw
 refine⟨w1,fun h0=>?_⟩
 obtain⟨n1,n2⟩:=w2 h0
 have hT:=(whole_tree (s:=s) (d:=(ymWhole s (spY s)).1) (a:=(ymWhole s (spY s)).2.1) (by rw[←h0])).tree
 exact value_sim n1 n2 (.inl he0) 32 0 _ hT
def framedL (s:Stp):Stp:= [35,32,120,10,10]++s++ [10,32,32,10,32,32,32,32,35,32,121]
theorem join_app: ∀(A:List Stp) (y:Stp) (B:List Stp),A≠ []→joinNl (A++y::B)=joinNl A++10::joinNl (y::B)
 | [],_,_,h=>absurd rfl h
 | [x],y,B,_=>rfl
 | x::z::r,y,B,_=>by
  show x++10::joinNl ((z::r)++y::B)=(x++10::joinNl (z::r))++10::joinNl (y::B)
  rw[join_app (z::r) y B (by simp)]
  simp
theorem framed_join (s:Stp):framedL s=joinNl ([[35,32,120],[]]++(splitL s++ [[32,32],[32,32,32,32,35,32,121]])):=by
 have hne:=splitL_ne s
 have hj:=splitL_join s
 have e2:joinNl (splitL s++ [[32,32],[32,32,32,32,35,32,121]])=s++ [10,32,32,10,32,32,32,32,35,32,121]:=by
  rw[join_app _ _ _ hne,hj]
  rfl
 cases hs:splitL s++ [[32,32],[32,32,32,32,35,32,121]] with
 | nil=>simp at hs
 | cons y B=>
  rw[hs] at e2
  show _= [35,32,120]++10::([]++10::joinNl (y::B))
  rw[e2]
  unfold framedL
  simp
theorem line_known {s:Stp}{x:Nat×Nat} (h1:x.1≤x.2) (h2:x.2≤s.length) {t:Stp} (ht:lineT s x=t) (h10:t.contains 10=false) (hw:(decide (wrL true t<t.length))=false) (hc:(match coreL (t.drop (spL t)) with | none=>false | some c=>decide (c.kind<3))=true):(lineL s x.1 x.2).2.2=0∧contentB (lineL s x.1 x.2).1=false:=by
 rw[lineL_text h1 h2,ht,h10,if_neg (by simp),if_neg (by simpa using hw)]
 cases hcc:coreL (t.drop (spL t)) with
 | none=>rw[hcc] at hc;cases hc
 | some c=>
  rw[hcc] at hc
  have hk:c.kind<3:=by simpa using hc
  refine⟨rfl,?_⟩
  unfold contentB lineOf
  simp only[]
  rw[decide_eq_false (by omega)]
  rfl
theorem sm_framed (s:Stp):Sm 0 2 s (framedL s) (spY s) (spY (framedL s))∧ ∀j,j<2→(lnL (framedL s) (spY (framedL s)) j).2.2=0∧contentB (lnL (framedL s) (spY (framedL s)) j).1=false:=by
 have hne:=splitL_ne s
 have hno:=splitL_no10 s
 have hj:=splitL_join s
 obtain⟨l1,t1⟩:=spY_text hj.symm hne hno
 obtain⟨l2,t2⟩:=spY_text (framed_join s) (by simp) (fun x hx=>by
  simp only[List.mem_append,List.mem_cons,List.not_mem_nil,or_false] at hx
  rcases hx with(h | h) | h | h | h
  ·rw[h];decide
  ·rw[h];rfl
  ·exact hno x h
  ·rw[h];decide
  ·rw[h];decide)
 simp only[List.length_append,List.length_cons,List.length_nil] at l2 t2
 have hok:=spY_ok (framedL s)
 have ha:lineT (framedL s) (spAt (spY (framedL s)) (2+(spY s).length))= [32,32]:=by
  rw[t2 _ (by omega),List.getElem?_append_right (by simp),List.getElem?_append_right (by simp[l1]),show 2+(spY s).length-([[35,32,120],[]]:List Stp).length-(splitL s).length=0 by simp[l1]]
  rfl
 have hb:lineT (framedL s) (spAt (spY (framedL s)) (2+(spY s).length+1))= [32,32,32,32,35,32,121]:=by
  rw[t2 _ (by omega),List.getElem?_append_right (by simp;try omega),List.getElem?_append_right (by simp[l1];try omega),show 2+(spY s).length+1-([[35,32,120],[]]:List Stp).length-(splitL s).length=1 by simp[l1];try omega]
  rfl
 refine⟨⟨spY_ok s,hok,spY_end s,spY_end _,by omega,fun j hj=>?_,fun j h1 h2=>?_,fun ind til first=>?_⟩,fun j hj=>?_⟩
 ·rw[t2 _ (by omega),t1 j (by omega),List.getElem?_append_right (by simp),show 2+j-([[35,32,120],[]]:List Stp).length=j by simp,List.getElem?_append_left (by omega)]
  rfl
 ·have hx:=hok.at_ j
  unfold lnL
  by_cases e:j=2+(spY s).length
  ·subst e
   obtain⟨g1,g2⟩:=line_known hx.1 hx.2 ha (by decide) (by decide+kernel) (by decide+kernel)
   exact⟨g1,g2,by rw[ha];decide+kernel⟩
  ·obtain rfl:j=2+(spY s).length+1:=by omega
   obtain⟨g1,g2⟩:=line_known hx.1 hx.2 hb (by decide) (by decide+kernel) (by decide+kernel)
   exact⟨g1,g2,by rw[hb];decide+kernel⟩
 ·obtain⟨N,hN⟩: ∃N,2+(spY s).length=N:=⟨_,rfl⟩
  rw[hN] at ha hb ⊢
  have hl:(spY (framedL s)).length=N+2:=by omega
  have hd:(spY (framedL s)).drop N= [spAt (spY (framedL s)) N,spAt (spY (framedL s)) (N+1)]:=by
   rw[List.drop_eq_getElem_cons (by omega),List.drop_eq_getElem_cons (by omega),List.drop_of_length_le (by omega)]
   unfold spAt
   rw[List.getElem?_eq_getElem (by omega),List.getElem?_eq_getElem (by omega)]
   rfl
  rw[hd]
  unfold reachG
  rw[ha,if_pos (by decide)]
  unfold reachG
  rw[hb,if_neg (by decide)]
  split
  ·exact .inl rfl
  ·right
   unfold reachG
   omega
 ·have hx:=hok.at_ j
  unfold lnL
  by_cases e:j=0
  ·subst e
   exact line_known hx.1 hx.2 (t:= [35,32,120]) (by rw[t2 0 (by omega)];rfl) (by decide) (by decide+kernel) (by decide+kernel)
  ·obtain rfl:j=1:=by omega
   exact line_known hx.1 hx.2 (t:= []) (by rw[t2 1 (by omega)];rfl) (by decide) (by decide+kernel) (by decide+kernel)
theorem moves2 (s:Stp) (hs:s.length≤2048):(parseYm (framedL s)).2.2=(parseYm s).2.2∧((parseYm s).2.2=0→(∀x∈(parseYm s).1.nodes,x.kind≠4)→nodeYv (framedL s) (parseYm (framedL s)).1 32 0=nodeYv s (parseYm s).1 32 0):=by
 have hl:(framedL s).length=s.length+16:=by unfold framedL;simp
 rw[parse_whole (s:=s) (by omega),parse_whole (s:=framedL s) (by omega)]
 obtain⟨H,hf⟩:=sm_framed s
 obtain⟨w1,w2⟩:=whole_sim H hf
 refine⟨w1,fun h0 h4=>?_⟩
 obtain⟨n1,n2⟩:=w2 h0
 have hT:=(whole_tree (s:=s) (d:=(ymWhole s (spY s)).1) (a:=(ymWhole s (spY s)).2.1) (by rw[←h0])).tree
 exact value_sim n1 n2 (.inr h4) 32 0 _ hT
end Go.Proofs.YtlibkhbachmcgaaGreatDoor
namespace Go.Proofs.YtlibkhbachmcgaaGreatDoor
set_option linter.unusedSimpArgs false
set_option linter.unusedVariables false
open Go.RowKit
open Go.Lib hiding intOf
theorem andL7 (k:Int): ∃j:Nat,j≤7∧bits .and .i64 k 7=j:=by
 have h:(BitVec.ofInt 64 k&&& BitVec.ofInt 64 7).toNat≤7:=by
  rw[BitVec.toNat_and]
  exact Nat.le_trans Nat.and_le_right (by decide)
 exact⟨(BitVec.ofInt 64 k&&& BitVec.ofInt 64 7).toNat,h,(show IntKind.i64.wrap ((BitVec.ofInt 64 k&&& BitVec.ofInt 64 7).toNat:Int)=_ from IntWalk.i64_in _ (by omega))⟩
theorem spL8 (n:Nat) (h:n≤7):(⟨#[32,32,32,32,32,32,32,32]⟩:ByteArray).extract 0 n=bs (List.replicate n 32):=by
 have:n=0∨n=1∨n=2∨n=3∨n=4∨n=5∨n=6∨n=7:=by omega
 rcases this with rfl | rfl | rfl | rfl | rfl | rfl | rfl | rfl<;>decide+kernel
theorem bs_get (l:List UInt8) (k:Nat) (h:k<(bs l).size):l[k]?=some ((bs l)[k]'h):=by
 have h2:k<l.length:=by rw[bs_size] at h;exact h
 rw[List.getElem?_eq_getElem h2];rfl
def mvG (n:Nat) (l:Stp):Stp:=l.flatMap fun c=>if c=10 then 10::List.replicate n 32 else [c]
theorem mvG_len (n:Nat): ∀l:Stp,(mvG n l).length≤l.length*(n+1)
 | []=>Nat.zero_le _
 | c::r=>by
  have:=mvG_len n r
  unfold mvG at this ⊢
  rw[List.flatMap_cons,List.length_append,List.length_cons,Nat.succ_mul]
  have h1:(if c=10 then(10::List.replicate n 32:Stp) else [c]).length≤n+1:=by split<;>simp
  omega
theorem mvG_snoc {n:Nat}{s:Stp}{k:Nat}{c:UInt8} (h:s[k]?=some c):mvG n (s.take (k+1))=mvG n (s.take k)++if c=10 then 10::List.replicate n 32 else [c]:=by
 unfold mvG
 rw[List.take_add_one,h,List.flatMap_append]
 simp
theorem moved_any (s:Stp) (n:Nat) (w:World) (hn:n≤7) (hs:s.length≤1048576):
  Calls Tryz.prog 19 #[.string (bs s), .int .i64 (n:Int)] w fun e w'=>e= .returned (.string (bs (movedL n s)))∧Below w.heap.size w w':=by
 have sl:=bs_size s
 have g0:=spL8 n hn
 obtain⟨B0,hB0⟩: ∃B,List.replicate n (32:UInt8)=B:=⟨_,rfl⟩
 have hBl:B0.length=n:=by rw[←hB0,List.length_replicate]
 have hBs:(bs B0).size=n:=by rw[bs_size,hBl]
 rw[hB0] at g0
 have hcv:=Lib.run_convert_string_bytes (P:=Tryz.prog) w 9 83 5 (bs B0) (u:= .string) Tryz.underlying9 Tryz.underlying83 Tryz.underlying5
 have hb1:Below w.heap.size w (Lib.bytesWorld w 5 (bs B0)):=Lib.bytesWorld_below _ _ _
 have ho:=OwnZ.conv w B0
 obtain⟨C,hC⟩: ∃C,grownCap w B0.length 0 5=C:=⟨_,rfl⟩
 rw[hBs] at hcv
 rw[hBl] at hC ho
 rw[hC] at hcv ho
 obtain⟨W1,hW1⟩: ∃W,Lib.bytesWorld w 5 (bs B0)=W:=⟨_,rfl⟩
 rw[hW1] at hcv hb1 ho
 have HB1:=hid hb1
 have HO1:=hid ho
 have HM:Hid (movedL n s=B0++mvG n s):=hid (by rw[←hB0];rfl)
 have HL:Hid (∀k,(mvG n (s.take k)).length≤8388608):=hid (fun k=>by
  have h1:=mvG_len n (s.take k)
  have h2:(s.take k).length≤s.length:=by rw[List.length_take];omega
  have h3:(s.take k).length*(n+1)≤1048576*8:=Nat.mul_le_mul (by omega) (by omega)
  omega)
 have HB0:=hid hB0
 clear hC hW1 hb1 ho hB0
 go_enter Tryz.func19,Tryz.ntmps19
 go_wp2_with fail
 go_loopw [6,7] (fun s6 s7 wr=> ∃(k:Nat),s7= .int .i64 (k:Int)∧k≤s.length∧Hid (OwnZ w.heap.size wr s6 (B0++mvG n (s.take k)))∧Hid (Below w.heap.size w wr)) (fun _ s7 _=>s.length-(RowKit.intOf s7).toNat)
 case atStart=>
  refine⟨0,rfl,Nat.zero_le _,?_,HB1⟩
  rw[List.take_zero,show mvG n []= [] from rfl,List.append_nil]
  exact HO1
 case round=>
  clear HO1 HB1
  obtain⟨k,rfl,hk,HO,HB⟩:=hrel
  have hz:=HB.out.size
  by_cases hkn:k<s.length
  rotate_left
  ·obtain rfl:k=s.length:=by omega
   have dk:decide ((s.length:Int)<(s.length:Int))=false:=decide_eq_false (by omega)
   have hcv:=HO.out.run
   rw[List.take_length,←HM.out] at hcv
   go_wp2_with fail
   go_ret
   exact⟨rfl,HB.out⟩
  have dk:decide ((k:Int)<(s.length:Int))=true:=decide_eq_true (by omega)
  obtain⟨c,hc⟩: ∃c,s[k]?=some c:=⟨_,List.getElem?_eq_getElem hkn⟩
  have hsn:=mvG_snoc (n:=n) hc
  have hlk:=HL.out k
  have hlt':k<(bs s).size:=by omega
  have hcc:(bs s)[k]'hlt'=c:=by
   have h1:=bs_get s k hlt'
   rw[hc] at h1
   exact(Option.some.inj h1).symm
  obtain⟨ci,hci⟩: ∃ci:Nat,c.toNat=ci:=⟨_,rfl⟩
  have hbc:Lib.byteCells [c]= [.int .u8 (ci:Int)]:=by unfold Lib.byteCells;simp[hci]
  have hbi:((bs s)[k]'hlt').toNat=ci:=by rw[hcc,hci]
  obtain⟨k1,hk1⟩: ∃k1,k+1=k1:=⟨_,rfl⟩
  have hk1z:(k:Int)+1=(k1:Int):=by omega
  have hk1n:k1≤s.length:=by omega
  rw[hk1] at hsn
  have HSN:=hid hsn
  clear hsn hc hcc hk1
  have hlb:(B0++mvG n (s.take k)).length≤8388616:=by rw[List.length_append];omega
  by_cases h10:c=10
  ·have hc10:ci=10:=by rw[←hci,h10];rfl
   subst hc10
   have HC:=hid h10
   clear h10 hci
   go_wp2_with (first | (at_builtin;(refine wpList_bytesZ rfl _ _ rfl w.heap.size wr u6 (B0++mvG n (s.take k)) [c] rfl HO.out _ rfl (by rw[hbc];first | done | rfl) (by rw[show [c].length=1 from rfl];omega) hz ?_);intro v1 w1 hown1 hbel1;have hz1:=Nat.le_trans hz hbel1.size) | (at_builtin;go_must (refine wpList_textZ rfl _ _ rfl w.heap.size w1 v1 _ B0 rfl hown1 rfl (by rw[List.length_append,show [c].length=1 from rfl];omega) hz1 ?_);intro v2 w2 hown2 hbel2))
   go_roundw
   ·refine⟨k1,by rw[←hk1z],hk1n,hid ?_,hid (HB.out.trans (hbel1.trans hbel2))⟩
    rw[HSN.out,if_pos HC.out,HB0.out,←HC.out]
    have:=hown2
    simp only[List.append_assoc,List.singleton_append] at this
    exact this
   ·simp only[RowKit.intOf];omega
  ·have hn10:ci≠10:=fun e=>h10 (UInt8.toNat_inj.1 (by rw[hci,e];rfl))
   have d10:((ci:Int)==10)=false:=beq_eq_false_iff_ne.2 (by omega)
   have d10b:(ci==10)=false:=beq_eq_false_iff_ne.2 hn10
   have HC:=hid h10
   clear h10 hci hn10
   go_wp2_with (first | (at_builtin;go_must (refine wpList_bytesZ rfl _ _ rfl w.heap.size wr u6 (B0++mvG n (s.take k)) [c] rfl HO.out _ rfl (by rw[hbc];first | done | rfl) (by rw[show [c].length=1 from rfl];omega) hz ?_);intro v1 w1 hown1 hbel1))
   go_roundw
   ·refine⟨k1,by rw[←hk1z],hk1n,hid ?_,hid (HB.out.trans hbel1)⟩
    rw[HSN.out,if_neg HC.out,←List.append_assoc]
    exact hown1
   ·simp only[RowKit.intOf];omega
end Go.Proofs.YtlibkhbachmcgaaGreatDoor
namespace Go.Proofs.YtlibkhbachmcgaaGreatDoor
set_option linter.unusedSimpArgs false
set_option linter.unusedVariables false
set_option maxRecDepth 100000
open Go.Lib
def sA12:Stp:= [97,58,32,49,10,98,58,10,32,32,45,32,120,10,32,32,45,32,124,10,32,32,32,32,112,10,32,32,32,32,113]
def sB12:Stp:= [97,58,32,49,10,32,98,58,32,50]
def dA12:YDoc:=⟨[⟨4,0,4,0,0,1,3,4,0,0⟩,⟨4,5,7,0,5,6,7,7,0,0⟩,⟨3,8,13,2,0,0,12,13,0,0⟩,⟨3,14,19,2,0,0,18,19,0,0⟩,⟨6,20,25,4,0,0,0,0,0,0⟩,⟨6,26,31,4,0,0,0,0,0,0⟩],
 [⟨3,0,0,6,0,0,0,0,[1,2]⟩,⟨1,0,0,1,0,1,3,4,[]⟩,⟨2,2,2,6,5,6,0,0,[3,4]⟩,⟨1,2,2,3,0,0,12,13,[]⟩,⟨4,2,3,6,0,0,18,19,[]⟩]⟩
def vA12:VT:= .mk 6 [] [[97],[98]] [.mk 3 [49] [] [], .mk 5 [] [] [.mk 4 [120] [] [], .mk 4 [112,10,113,10] [] []]]
theorem sA_parse:parseYm sA12=(dA12,31,0):=by kernel_rfl
theorem sB_parse:(parseYm sB12).2=(6,2):=by decide+kernel
theorem dA_node:nodeYv sA12 dA12 32 0=vA12:=by kernel_rfl
theorem dA_lit:litY sA12 dA12.lines ⟨4,2,3,6,0,0,18,19,[]⟩= [112,10,113,10]:=by decide+kernel
theorem dA_B:DocB sA12 dA12:=⟨by decide,by decide,by decide,by decide,by decide⟩
theorem dA_64: ∀l∈dA12.lines,l.ind≤1099511627776:=by decide
theorem dA_T:TKY dA12.nodes 32 0 5:=by
 have h1:TKY dA12.nodes 31 1 2:=⟨_,rfl,rfl⟩
 have h3:TKY dA12.nodes 30 3 4:=⟨_,rfl,rfl⟩
 have h4:TKY dA12.nodes 30 4 5:=⟨_,rfl,rfl⟩
 have h2:TKY dA12.nodes 31 2 5:=⟨_,rfl,rfl,4,h3,rfl,5,h4,rfl⟩
 exact⟨_,rfl,rfl,2,h1,rfl,5,h2,rfl⟩
end Go.Proofs.YtlibkhbachmcgaaGreatDoor
namespace Go.Proofs.YtlibkhbachmcgaaGreatDoor
set_option linter.unusedSimpArgs false
set_option linter.unusedVariables false
open Go.RowKit
open Go.Lib hiding intOf
theorem sm_num1:textL (ofInt 1)= [49]:=by decide+kernel
theorem vnum1_any (w:World) (hV:YVar w):
  Calls Tryz.prog 25 #[.int .i64 1] w fun e w'=>e= .returned (.agg #[.int .i64 3, .string (bs [49]), .slice none 0 0, .slice none 0 0])∧Below w.heap.size w w':=by
 have ba:=below_alloc1 w (.cells #[.int .i64 0, .string (bs []), .slice none 0 0, .slice none 0 0] 36)
 have hB0:=RsBox.new w 0 []
 obtain⟨W1,hW1⟩: ∃W,w.alloc (.cells #[.int .i64 0, .string (bs []), .slice none 0 0, .slice none 0 0] 36)=W:=⟨_,rfl⟩
 rw[hW1] at ba hB0
 have HBa:=hid ba
 have HB0:=hid hB0
 have HV:=hid (hV.keep ba)
 obtain⟨y0,y1,y2,y3,f0,f1,f2,f3⟩:=hB0.cells
 have hW1':w.alloc (.cells #[.int .i64 0, .string ⟨#[]⟩, .slice none 0 0, .slice none 0 0] 36)=W1:=hW1
 have C1:=hid (of_any 1 W1 (by omega) HV.out.1.2)
 have C2:Hid (∀w',YVar w'→Calls Tryz.prog 50 #[.agg #[.bool (ofInt 1).neg, .string (bs (ofInt 1).dig), .int .i64 (ofInt 1).exp]] w' fun e w2=>e= .returned (.string (bs [49]))∧Below w'.heap.size w' w2):=hid (fun w' hv=>by
  have:=text_any (ofInt 1) w' (by decide+kernel) hv.1.2
  rw[sm_num1] at this
  exact this)
 unfold numV at C1
 obtain⟨N,hN⟩: ∃N,ofInt 1=N:=⟨_,rfl⟩
 rw[hN] at C1 C2
 clear hV ba hB0 hW1 hN
 go_enter Tryz.func25,Tryz.ntmps25
 go_wp2_with fail
 refine C1.out.mono ?_
 rintro e w2 ⟨rfl,hb2⟩
 have HR2:=hid (HB0.out.keep hb2)
 have HB2:=hid (below_of_new HBa.out hb2)
 have HV2:=hid (HV.out.keep hb2)
 clear hb2 y0 y1 y2 y3 f0 f1 f2 f3
 go_wp2_with fail
 refine(C2.out _ HV2.out).mono ?_
 rintro e w4 ⟨rfl,hb4⟩
 have HR4:=hid (HR2.out.keep hb4)
 have HB4:=hid (below_of_new HB2.out hb4)
 clear hb4
 obtain⟨y0,y1,y2,y3,f0,f1,f2,f3⟩:=HR4.out.cells
 go_wp2_with fail
 clear y0 y1 y2 y3 f0 f1 f2 f3
 have hP:=(HR4.out).put (k2:=3) (t2:= [49])
 have hPB:=below_putRs (k:=3) (t:= [49]) (HB4.out) (Nat.le_refl w.heap.size)
 obtain⟨WF,hWF⟩: ∃W,putRs w4 w.heap.size 3 [49]=W:=⟨_,rfl⟩
 rw[hWF] at hP hPB
 have hWF':(((w4.setCell ⟨w.heap.size,0,none⟩ (.int .i64 3)).setCell ⟨w.heap.size,1,none⟩ (.string (bs [49]))).setCell ⟨w.heap.size,2,none⟩ (.slice none 0 0)).setCell ⟨w.heap.size,3,none⟩ (.slice none 0 0)=WF:=hWF
 rw[hWF']
 obtain⟨d0,d1,d2,d3,_⟩:=hP.cells
 clear hWF hWF'
 refine bodyPost_ret (v:= .agg #[.int .i64 3, .string (bs [49]), .slice none 0 0, .slice none 0 0]) ?_ rfl ⟨rfl,hPB⟩
 simp[results,Tryz.results25,go_sem,d0,d1,d2,d3]
def RvBox (w:World) (X:Nat) (k:Int) (t:Stp) (kv iv:Value):Prop:=w.heap[X]?=some (.cells #[.int .i64 k, .string (bs t),kv,iv] 36 (0,0))
def putRv (w:World) (X:Nat) (k:Int) (t:Stp) (kv iv:Value):World:=(((w.setCell ⟨X,0,none⟩ (.int .i64 k)).setCell ⟨X,1,none⟩ (.string (bs t))).setCell ⟨X,2,none⟩ kv).setCell ⟨X,3,none⟩ iv
theorem RsBox.putv {w:World}{X:Nat}{k k2:Int}{t t2:Stp}{kv iv:Value} (h:RsBox w X k t):RvBox (putRv w X k2 t2 kv iv) X k2 t2 kv iv:=by
 unfold RsBox at h
 unfold RvBox putRv
 simp[World.setCell,h,Array.getElem?_modify]
theorem RvBox.cells {w:World}{X:Nat}{k:Int}{t:Stp}{kv iv:Value} (h:RvBox w X k t kv iv):w.cell? ⟨X,0,none⟩=some (.int .i64 k)∧w.cell? ⟨X,1,none⟩=some (.string (bs t))∧w.cell? ⟨X,2,none⟩=some kv∧w.cell? ⟨X,3,none⟩=some iv:=by
 unfold RvBox at h
 refine⟨?_,?_,?_,?_⟩<;>simp[World.cell?,h]
theorem below_putRv {B:Nat}{w w':World}{X:Nat}{k:Int}{t:Stp}{kv iv:Value} (h:Below B w w') (hX:B≤X):Below B w (putRv w' X k t kv iv):=by
 unfold putRv
 exact(((h.setCell (p:=⟨X,0,none⟩) hX _).setCell (p:=⟨X,1,none⟩) hX _).setCell (p:=⟨X,2,none⟩) hX _).setCell (p:=⟨X,3,none⟩) hX _
theorem lrow_any (p:Option Addr) (n c:Nat) (w:World):
  Calls Tryz.prog 26 #[.slice p n c] w fun e w'=>e= .returned (.agg #[.int .i64 5, .string ⟨#[]⟩, .slice none 0 0, .slice p n c])∧Below w.heap.size w w':=by
 have ba:=below_alloc1 w (.cells #[.int .i64 0, .string (bs []), .slice none 0 0, .slice none 0 0] 36)
 have hB0:=RsBox.new w 0 []
 obtain⟨W1,hW1⟩: ∃W,w.alloc (.cells #[.int .i64 0, .string (bs []), .slice none 0 0, .slice none 0 0] 36)=W:=⟨_,rfl⟩
 rw[hW1] at ba hB0
 obtain⟨y0,y1,y2,y3,f0,f1,f2,f3⟩:=hB0.cells
 have hW1':w.alloc (.cells #[.int .i64 0, .string ⟨#[]⟩, .slice none 0 0, .slice none 0 0] 36)=W1:=hW1
 go_enter Tryz.func26,Tryz.ntmps26
 go_wp2_with fail
 clear y0 y1 y2 y3 f0 f1 f2 f3
 have hP:=hB0.putv (k2:=5) (t2:= []) (kv:= .slice none 0 0) (iv:= .slice p n c)
 have hPB:=below_putRv (k:=5) (t:= []) (kv:= .slice none 0 0) (iv:= .slice p n c) ba (Nat.le_refl w.heap.size)
 obtain⟨WF,hWF⟩: ∃W,putRv W1 w.heap.size 5 [] (.slice none 0 0) (.slice p n c)=W:=⟨_,rfl⟩
 rw[hWF] at hP hPB
 have hWF':(((W1.setCell ⟨w.heap.size,0,none⟩ (.int .i64 5)).setCell ⟨w.heap.size,1,none⟩ (.string ⟨#[]⟩)).setCell ⟨w.heap.size,2,none⟩ (.slice none 0 0)).setCell ⟨w.heap.size,3,none⟩ (.slice p n c)=WF:=hWF
 rw[hWF']
 obtain⟨d0,d1,d2,d3⟩:=hP.cells
 clear hWF hWF'
 refine bodyPost_ret (v:= .agg #[.int .i64 5, .string ⟨#[]⟩, .slice none 0 0, .slice p n c]) ?_ rfl ⟨rfl,hPB⟩
 have d1':WF.cell? ⟨w.heap.size,1,none⟩=some (.string ⟨#[]⟩):=d1
 simp[results,Tryz.results26,go_sem,d0,d1',d2,d3]
theorem lmap_any (q:Option Addr) (m d:Nat) (p:Option Addr) (n c:Nat) (w:World):
  Calls Tryz.prog 24 #[.slice q m d, .slice p n c] w fun e w'=>e= .returned (.agg #[.int .i64 6, .string ⟨#[]⟩, .slice q m d, .slice p n c])∧Below w.heap.size w w':=by
 have ba:=below_alloc1 w (.cells #[.int .i64 0, .string (bs []), .slice none 0 0, .slice none 0 0] 36)
 have hB0:=RsBox.new w 0 []
 obtain⟨W1,hW1⟩: ∃W,w.alloc (.cells #[.int .i64 0, .string (bs []), .slice none 0 0, .slice none 0 0] 36)=W:=⟨_,rfl⟩
 rw[hW1] at ba hB0
 obtain⟨y0,y1,y2,y3,f0,f1,f2,f3⟩:=hB0.cells
 have hW1':w.alloc (.cells #[.int .i64 0, .string ⟨#[]⟩, .slice none 0 0, .slice none 0 0] 36)=W1:=hW1
 go_enter Tryz.func24,Tryz.ntmps24
 go_wp2_with fail
 clear y0 y1 y2 y3 f0 f1 f2 f3
 have hP:=hB0.putv (k2:=6) (t2:= []) (kv:= .slice q m d) (iv:= .slice p n c)
 have hPB:=below_putRv (k:=6) (t:= []) (kv:= .slice q m d) (iv:= .slice p n c) ba (Nat.le_refl w.heap.size)
 obtain⟨WF,hWF⟩: ∃W,putRv W1 w.heap.size 6 [] (.slice q m d) (.slice p n c)=W:=⟨_,rfl⟩
 rw[hWF] at hP hPB
 have hWF':(((W1.setCell ⟨w.heap.size,0,none⟩ (.int .i64 6)).setCell ⟨w.heap.size,1,none⟩ (.string ⟨#[]⟩)).setCell ⟨w.heap.size,2,none⟩ (.slice q m d)).setCell ⟨w.heap.size,3,none⟩ (.slice p n c)=WF:=hWF
 rw[hWF']
 obtain⟨d0,d1,d2,d3⟩:=hP.cells
 clear hWF hWF'
 refine bodyPost_ret (v:= .agg #[.int .i64 6, .string ⟨#[]⟩, .slice q m d, .slice p n c]) ?_ rfl ⟨rfl,hPB⟩
 have d1':WF.cell? ⟨w.heap.size,1,none⟩=some (.string ⟨#[]⟩):=d1
 simp[results,Tryz.results24,go_sem,d0,d1',d2,d3]
theorem VD.leaf (w:World) (n:Nat) (k:Int) (s:Stp):VD w (n+1) (.mk k s [] []) (.slice none 0 0) (.slice none 0 0):=
 ⟨⟨none,0,rfl,Nat.le_refl _, .inl rfl⟩,none,0,rfl,Nat.le_refl _, .inl rfl⟩
theorem VD.two {w:World}{n K:Nat}{x y:VT}{xk xi yk yi kv:Value}{k:Int}{s:Stp}{ks:List Stp} (hks:SV w kv ks) (h:w.heap[K]?=some (.cells #[.int .i64 x.kind, .string (bs x.text),xk,xi, .int .i64 y.kind, .string (bs y.text),yk,yi] 36)) (hx:VD w n x xk xi) (hy:VD w n y yk yi):
  VD w (n+1) (.mk k s ks [x,y]) kv (.slice (some ⟨K,0,none⟩) 2 2):=by
 refine⟨hks,some ⟨K,0,none⟩,2,rfl,Nat.le_refl _, .inr ⟨K,0,rfl,cell_it h,fun j z hz=>?_⟩⟩
 have hz: [x,y][j]?=some z:=hz
 match j,hz with
 | 0,hz=>
  obtain rfl:x=z:=by simpa using hz
  exact⟨xk,xi,by simp[World.cell?,h],by simp[World.cell?,h],by simp[World.cell?,h],by simp[World.cell?,h],hx⟩
 | 1,hz=>
  obtain rfl:y=z:=by simpa using hz
  exact⟨yk,yi,by simp[World.cell?,h],by simp[World.cell?,h],by simp[World.cell?,h],by simp[World.cell?,h],hy⟩
 | j+2,hz=>simp at hz
theorem SV.two {w:World}{K:Nat}{x y:Stp} (h:w.heap[K]?=some (.cells #[.string (bs x), .string (bs y)] 9)):SV w (.slice (some ⟨K,0,none⟩) 2 2) [x,y]:=by
 refine⟨some ⟨K,0,none⟩,2,rfl,Nat.le_refl _, .inr ⟨K,0,rfl,cell_it h,fun j z hz=>?_⟩⟩
 match j,hz with
 | 0,hz=>
  obtain rfl:x=z:=by simpa using hz
  simp[World.cell?,h]
 | 1,hz=>
  obtain rfl:y=z:=by simpa using hz
  simp[World.cell?,h]
 | j+2,hz=>simp at hz
def Lens:Nat→VT→Prop
 | 0,_=>True
 | n+1,t=>t.keys.length≤1073741824∧t.items.length≤1073741824∧ ∀x∈t.items,Lens n x
def EqB (t t2:VT) (e:Ending):Prop:= ∃b:Bool,e= .returned (.bool b)∧(t=t2→b=true)
def REb (n:Nat):Prop:= ∀(t t2:VT) (kv iv kv2 iv2:Value) (w:World),VD w n t kv iv→VD w n t2 kv2 iv2→Lens n t→Lens n t2→Calls Tryz.prog 16 #[vv t kv iv,vv t2 kv2 iv2] w fun e w'=>EqB t t2 e∧Below w.heap.size w w'
theorem requalB_step (n:Nat) (IH:REb n):REb (n+1):=by
 intro t t2 kv iv kv2 iv2 w h h' hbk hbk2
 obtain⟨m',hm,⟨pk,ck,rfl,hck,hlies⟩,p,c,rfl,hlc,hit⟩:=h.parts
 obtain rfl:n=m':=by omega
 obtain⟨m2,hm2,⟨pk2,ck2,rfl,hck2,hlies2⟩,p2,c2,rfl,hlc2,hit2⟩:=h'.parts
 obtain rfl:n=m2:=by omega
 obtain⟨X,hX⟩: ∃X,w.heap.size=X:=⟨_,rfl⟩
 obtain⟨W1,hW1⟩: ∃W,w.alloc (.cells #[.int .i64 t.kind, .string (bs t.text), .slice pk t.keys.length ck, .slice p t.items.length c] 36)=W:=⟨_,rfl⟩
 obtain⟨X2,hX2⟩: ∃X2,W1.heap.size=X2:=⟨_,rfl⟩
 obtain⟨W2,hW2⟩: ∃W,W1.alloc (.cells #[.int .i64 t2.kind, .string (bs t2.text), .slice pk2 t2.keys.length ck2, .slice p2 t2.items.length c2] 36)=W:=⟨_,rfl⟩
 have hB1:Below w.heap.size w W1:=by rw[←hW1];exact below_alloc1 _ _
 have hB12:Below W1.heap.size W1 W2:=by rw[←hW2];exact below_alloc1 _ _
 have HB2:=hid (below_of_new hB1 hB12)
 have HXB:Hid (VBox W2 X t (.slice pk t.keys.length ck) (.slice p t.items.length c)):=hid (VBox.keep (by rw[←hW1,←hX];exact VBox.new w t _ _) hB12)
 have HXB2:Hid (VBox W2 X2 t2 (.slice pk2 t2.keys.length ck2) (.slice p2 t2.items.length c2)):=hid (by rw[←hW2,←hX2];exact VBox.new W1 t2 _ _)
 have HIT:=hid (hit.keep HB2.out)
 have HIT2:=hid (hit2.keep HB2.out)
 have HSL:=hid (hlies.keep HB2.out)
 have HSL2:=hid (hlies2.keep HB2.out)
 obtain⟨k1,hk1⟩: ∃a,t.kind=a:=⟨_,rfl⟩
 obtain⟨k2,hk2⟩: ∃a,t2.kind=a:=⟨_,rfl⟩
 obtain⟨x1,hx1⟩: ∃a,t.text=a:=⟨_,rfl⟩
 obtain⟨x2,hx2⟩: ∃a,t2.text=a:=⟨_,rfl⟩
 obtain⟨n1,hn1⟩: ∃a,t.keys.length=a:=⟨_,rfl⟩
 obtain⟨n2,hn2⟩: ∃a,t2.keys.length=a:=⟨_,rfl⟩
 obtain⟨i1,hi1⟩: ∃a,t.items.length=a:=⟨_,rfl⟩
 obtain⟨i2,hi2⟩: ∃a,t2.items.length=a:=⟨_,rfl⟩
 unfold VBox at HXB HXB2
 unfold vv
 rw[hk1,hx1,hn1,hi1] at hW1 HXB
 rw[hk2,hx2,hn2,hi2] at hW2 HXB2
 rw[hk1,hk2,hx1,hx2,hn1,hn2,hi1,hi2]
 have HN:=hid (And.intro hn1 (And.intro hn2 (And.intro hi1 hi2)))
 have HBK:Hid (n1≤1073741824∧i1≤1073741824∧n2≤1073741824∧i2≤1073741824):=hid (by rw[←hn1,←hn2,←hi1,←hi2];exact⟨hbk.1,hbk.2.1,hbk2.1,hbk2.2.1⟩)
 have HLN:Hid ((∀x∈t.items,Lens n x)∧ ∀x∈t2.items,Lens n x):=hid ⟨hbk.2.2,hbk2.2.2⟩
 have HKX:=hid (And.intro hk1 (And.intro hk2 (And.intro hx1 hx2)))
 clear hit hlies h hm hB1 hB12 hit2 hlies2 h' hm2 hk1 hk2 hx1 hx2 hn1 hn2 hi1 hi2 hbk hbk2 hck hck2 hlc hlc2
 have hq:=HBK.out
 have HXC:Hid (∀w',Below W2.heap.size W2 w'→(w'.cell? ⟨X,0,none⟩=some (.int .i64 k1)∧w'.cell? ⟨X,1,none⟩=some (.string (bs x1))∧w'.cell? ⟨X,2,none⟩=some (.slice pk n1 ck)∧w'.cell? ⟨X,3,none⟩=some (.slice p i1 c))∧w'.cell? ⟨X2,0,none⟩=some (.int .i64 k2)∧w'.cell? ⟨X2,1,none⟩=some (.string (bs x2))∧w'.cell? ⟨X2,2,none⟩=some (.slice pk2 n2 ck2)∧w'.cell? ⟨X2,3,none⟩=some (.slice p2 i2 c2)):=hid (fun w' h=>by
  obtain⟨e0,e1,e2,e3,_⟩:=box4 ((h.block X (cell_it HXB.out)).trans HXB.out)
  obtain⟨f0,f1,f2,f3,_⟩:=box4 ((h.block X2 (cell_it HXB2.out)).trans HXB2.out)
  exact⟨⟨e0,e1,e2,e3⟩,f0,f1,f2,f3⟩)
 have HEND:Hid (∀(b:Bool) w',(t=t2→b=true)→Below W2.heap.size W2 w'→EqB t t2 (.returned (.bool b))∧Below w.heap.size w w'):=hid (fun b w' hb h=>⟨⟨b,rfl,hb⟩,below_of_new HB2.out h⟩)
 go_enter Tryz.func16,Tryz.ntmps16
 go_upto_region 1 with fail
 clear hW1 hW2 hX2
 obtain⟨⟨b0,b1,b2,b3⟩,d0,d1,d2,d3⟩:=HXC.out W2 (Below.refl _ _)
 by_cases hk:k1=k2
 rotate_left
 ·have HNE:=hid hk
  have ek:(k1 !=k2)=true:=by simpa using hk
  have ekb:(k1==k2)=false:=by simpa using hk
  go_wp2_with fail
  go_ret
  exact HEND.out _ _ (fun e=>absurd (by rw[←HKX.out.1,←HKX.out.2.1,e]) HNE.out) (by first | exact Below.refl _ _ | exact(Below.refl _ _).drew)
 have ek:(k1 !=k2)=false:=by simpa using hk
 have ekb:(k1==k2)=true:=by simpa using hk
 obtain⟨q1,et⟩: ∃q,((bs x1).toList==(bs x2).toList)=q:=⟨_,rfl⟩
 have et2:((bs x1).toList !=(bs x2).toList)=!q1:=by rw[←et];rfl
 have HET:=hid et
 cases q1 with
 | false=>
  clear hk
  go_wp2_with fail
  go_ret
  exact HEND.out _ _ (fun e=>by have:=HET.out;rw[←HKX.out.2.2.1,←HKX.out.2.2.2,e] at this;simp at this) (by first | exact Below.refl _ _ | exact(Below.refl _ _).drew)
 | true=>
 by_cases hn:n1=n2
 rotate_left
 ·have HNE:=hid hn
  have el:((n1:Int) !=(n2:Int))=true:=by simp;omega
  have el2:(n1 !=n2)=true:=by simpa using hn
  have el3:((n1:Int)==(n2:Int))=false:=by simp;omega
  have el4:(n1==n2)=false:=by simpa using hn
  clear hk
  go_wp2_with fail
  go_ret
  exact HEND.out _ _ (fun e=>absurd (by rw[←HN.out.1,←HN.out.2.1,e]) HNE.out) (by first | exact Below.refl _ _ | exact(Below.refl _ _).drew)
 by_cases hi:i1=i2
 rotate_left
 ·have HNE:=hid hi
  have ei:((i1:Int) !=(i2:Int))=true:=by simp;omega
  have ei2:(i1 !=i2)=true:=by simpa using hi
  have ei3:((i1:Int)==(i2:Int))=false:=by simp;omega
  have ei4:(i1==i2)=false:=by simpa using hi
  clear hk
  subst hn
  go_wp2_with fail
  go_ret
  exact HEND.out _ _ (fun e=>absurd (by rw[←HN.out.2.2.1,←HN.out.2.2.2,e]) HNE.out) (by first | exact Below.refl _ _ | exact(Below.refl _ _).drew)
 subst hn hi
 clear hk
 go_wp2_with fail
 clear b0 b1 b2 b3 d0 d1 d2 d3
 go_loopw [5] (fun s5 wr=> ∃i:Nat,s5= .int .i64 (i:Int)∧i≤n1∧Hid (Below W2.heap.size W2 wr)) (fun s5 _=>n1-(RowKit.intOf s5).toNat)
 case atStart=>exact⟨0,rfl,Nat.zero_le _,hid (by first | exact Below.refl _ _ | exact(Below.refl _ _).drew)⟩
 case round=>
  obtain⟨i,rfl,hi,HBr⟩:=hrel
  obtain⟨⟨b0,b1,b2,b3⟩,d0,d1,d2,d3⟩:=HXC.out wr HBr.out
  by_cases hil:i<n1
  ·obtain⟨x,hx⟩: ∃x,t.keys[i]?=some x:=⟨_,List.getElem?_eq_getElem (by rw[HN.out.1];exact hil)⟩
   obtain⟨y,hy⟩: ∃x,t2.keys[i]?=some x:=⟨_,List.getElem?_eq_getElem (by rw[HN.out.2.1];exact hil)⟩
   have hi1:(i:Int)<(n1:Int):=by omega
   have dk:decide ((i:Int)<(n1:Int))=true:=decide_eq_true hi1
   obtain⟨g,o,rfl,cx⟩:=(HSL.out.keep HBr.out).at_ hx
   obtain⟨g2,o2,rfl,cx2⟩:=(HSL2.out.keep HBr.out).at_ hy
   obtain⟨q,ex⟩: ∃q,((bs x).toList==(bs y).toList)=q:=⟨_,rfl⟩
   have ex2:((bs x).toList !=(bs y).toList)=!q:=by rw[←ex];rfl
   have HET:=hid ex
   have HXY:=hid (And.intro hx hy)
   have hi0:(0:Int)≤(i:Int):=by omega
   clear hx hy
   go_upto_region 6 with fail
   go_region
   all_goals
    cases q with
    | false=>
     go_wp2_with fail
     go_ret
     exact HEND.out _ _ (fun e=>by have h1:=HET.out;have h2:=HXY.out;rw[e,h2.2] at h2;rw[Option.some.inj h2.1] at h1;simp at h1) (by first | exact HBr.out | exact HBr.out.drew)
    | true=>
     go_wp2_with fail
     go_roundw
     case rel=>exact⟨i+1,by go_num,by omega,by first | exact HBr | exact hid (below_drewN HBr.out _)⟩
     case measure=>simp[RowKit.intOf];omega
  ·have dk:decide ((i:Int)<(n1:Int))=false:=decide_eq_false (by omega)
   go_wp2_with fail
   clear b0 b1 b2 b3 d0 d1 d2 d3
   go_loopw [6,7] (fun s6 s7 wq=> ∃i:Nat,s6= .int .i64 (i:Int)∧i≤i1∧Hid (Below W2.heap.size W2 wq)) (fun s6 _ _=>i1-(RowKit.intOf s6).toNat)
   case atStart=>exact⟨0,rfl,Nat.zero_le _,HBr⟩
   case round=>
    obtain⟨j,rfl,hj,HBq⟩:=hrel
    obtain⟨⟨b0,b1,b2,b3⟩,d0,d1,d2,d3⟩:=HXC.out wr HBq.out
    by_cases hjl:j<i1
    ·obtain⟨x,hx⟩: ∃x,t.items[j]?=some x:=⟨_,List.getElem?_eq_getElem (by rw[HN.out.2.2.1];exact hjl)⟩
     obtain⟨y,hy⟩: ∃x,t2.items[j]?=some x:=⟨_,List.getElem?_eq_getElem (by rw[HN.out.2.2.2];exact hjl)⟩
     have hj1:(j:Int)<(i1:Int):=by omega
     have dk2:decide ((j:Int)<(i1:Int))=true:=decide_eq_true hj1
     have HXY:=hid (And.intro hx hy)
     obtain⟨g,o,kv',iv',rfl,hg,n0,n1',n2,n3,hvd⟩:=HIT.out j x hx
     obtain⟨pk3,ck3,px,cx,rfl,rfl⟩:=hvd.form
     obtain⟨g2,o2,kv'',iv'',rfl,hg2,z0,z1,z2,z3,hvd2⟩:=HIT2.out j y hy
     obtain⟨pk4,ck4,px2,cx2,rfl,rfl⟩:=hvd2.form
     have m0:wr.cell? ⟨g,o+j*4,none⟩=some (.int .i64 x.kind):=by rw[HBq.out.cell (p:=⟨g,_,none⟩) hg];exact n0
     have m1:wr.cell? ⟨g,o+j*4+1,none⟩=some (.string (bs x.text)):=by rw[HBq.out.cell (p:=⟨g,_,none⟩) hg];exact n1'
     have m2:wr.cell? ⟨g,o+j*4+2,none⟩=some (.slice pk3 x.keys.length ck3):=by rw[HBq.out.cell (p:=⟨g,_,none⟩) hg];exact n2
     have m3:wr.cell? ⟨g,o+j*4+3,none⟩=some (.slice px x.items.length cx):=by rw[HBq.out.cell (p:=⟨g,_,none⟩) hg];exact n3
     have q0:wr.cell? ⟨g2,o2+j*4,none⟩=some (.int .i64 y.kind):=by rw[HBq.out.cell (p:=⟨g2,_,none⟩) hg2];exact z0
     have q1:wr.cell? ⟨g2,o2+j*4+1,none⟩=some (.string (bs y.text)):=by rw[HBq.out.cell (p:=⟨g2,_,none⟩) hg2];exact z1
     have q2:wr.cell? ⟨g2,o2+j*4+2,none⟩=some (.slice pk4 y.keys.length ck4):=by rw[HBq.out.cell (p:=⟨g2,_,none⟩) hg2];exact z2
     have q3:wr.cell? ⟨g2,o2+j*4+3,none⟩=some (.slice px2 y.items.length cx2):=by rw[HBq.out.cell (p:=⟨g2,_,none⟩) hg2];exact z3
     have HC:=hid (IH x y _ _ _ _ wr.drew ((hvd.keep HBq.out).keep (Below.refl _ _).drew) ((hvd2.keep HBq.out).keep (Below.refl _ _).drew) (HLN.out.1 x (List.mem_of_getElem? hx)) (HLN.out.2 y (List.mem_of_getElem? hy)))
     unfold vv at HC
     have hj0:(0:Int)≤(j:Int):=by omega
     clear hx hy n0 n1' n2 n3 z0 z1 z2 z3 hvd hvd2 hg hg2
     go_upto_region 11 with fail
     go_region_with (go_at_call 16;(refine HC.out.mono ?_);rintro e w6 ⟨⟨bq,rfl,hbq⟩,hb6⟩)
     all_goals
      have HB6:=hid (below_of_new HBq.out (below_of_new (Below.refl _ _).drew hb6))
      have HBQ:=hid hbq
      clear hbq hb6 b0 b1 b2 b3 d0 d1 d2 d3 m0 m1 m2 m3 q0 q1 q2 q3
      cases bq with
      | false=>
       have HBQ:Hid (x=y→False):=hid (fun e=>by cases HBQ.out e)
       go_wp2_with fail
       go_ret
       exact HEND.out _ _ (fun e=>by have h2:=HXY.out;rw[e,h2.2] at h2;exact(HBQ.out (Option.some.inj h2.1).symm).elim) (by first | exact HB6.out | exact HB6.out.drew)
      | true=>
       go_wp2_with fail
       go_roundw
       case rel=>exact⟨j+1,by go_num,by omega,by first | exact HB6 | exact hid (below_drewN HB6.out _)⟩
       case measure=>simp[RowKit.intOf];omega
    ·have dk2:decide ((j:Int)<(i1:Int))=false:=decide_eq_false (by omega)
     go_wp2_with fail
     go_ret
     exact HEND.out _ _ (fun _=>rfl) (by first | exact HBq.out | exact HBq.out.drew)
theorem requalB_any: ∀n,REb n
 | 0=>fun _ _ _ _ _ _ _ h _ _ _=>h.elim
 | n+1=>requalB_step n (requalB_any n)
theorem YDocAt.forms {B:Nat}{d:YDoc}{lv nv:Value}{w:World} (h:YDocAt B d lv nv w):(∃p c,lv= .slice p d.lines.length c)∧ ∃p c,nv= .slice p d.nodes.length c:=by
 obtain⟨z,hz,h1,h2⟩:=h
 have hzl:z.length=d.nodes.length:=by rw[←hz,List.length_map]
 refine⟨?_,?_⟩
 ·rcases h1.2 with⟨h3,h4⟩ | ⟨g,cap,cur,h3,_⟩
  ·exact⟨none,0,by rw[h3,h4]⟩
  ·exact⟨_,_,h3⟩
 ·rw[←hzl]
  rcases h2.row.2 with⟨h3,h4⟩ | ⟨g,cap,cur,h3,_⟩
  ·exact⟨none,0,by rw[h3,h4]⟩
  ·exact⟨_,_,h3⟩
theorem vA_lens:Lens 3 vA12:=by simp[Lens,vA12,VT.keys,VT.items]
theorem small12_any (w:World) (hV:AVar w):
  Calls Tryz.prog 9 #[] w fun e w'=>e= .returned (.bool true)∧Below w.heap.size w w':=by
 have HV:=hid hV
 have CA:=hid (yparse_any sA12 w hV)
 rw[sA_parse] at CA
 clear hV
 go_enter Tryz.func9,Tryz.ntmps9
 go_wp2_with fail
 refine CA.out.mono ?_
 rintro e w1 ⟨tx,lv,nv,rfl,rfl,hd1,hb1⟩
 obtain⟨⟨pl,cl,hpl⟩,pn,cn,hpn⟩:=hd1.forms
 rw[show dA12.lines.length=6 from rfl] at hpl
 rw[show dA12.nodes.length=5 from rfl] at hpn
 subst hpl hpn
 have HD1:=hid hd1
 have HB1:=hid hb1
 clear CA hd1 hb1
 obtain⟨K2,hK2⟩: ∃K,w1.heap.size=K:=⟨_,rfl⟩
 have b2:=below_alloc1 w1 (.cells #[.string (bs sA12), .slice pl 6 cl, .slice pn 5 cn] 26)
 have x2:=heap_alloc_new w1 (.cells #[.string (bs sA12), .slice pl 6 cl, .slice pn 5 cn] 26)
 obtain⟨w2,hw2⟩: ∃W,w1.alloc (.cells #[.string (bs sA12), .slice pl 6 cl, .slice pn 5 cn] 26)=W:=⟨_,rfl⟩
 rw[hw2] at b2 x2
 rw[hK2] at x2
 have HB2:=hid b2
 have HX2:=hid x2
 clear b2 x2
 have HV2:=hid ((HV.out.keep HB1.out).keep HB2.out)
 have HD2:=hid (HD1.out.keep HB2.out)
 have CB:=hid (yparse_any sB12 w2 HV2.out)
 obtain⟨dB,hdB⟩: ∃d,(parseYm sB12).1=d:=⟨_,rfl⟩
 have hpB:parseYm sB12=(dB,6,2):=by rw[←hdB,←sB_parse]
 rw[hpB] at CB
 clear hpB hdB
 go_wp2_with fail
 refine CB.out.mono ?_
 rintro e w3 ⟨tx,lv,nv,rfl,rfl,hd3,hb3⟩
 obtain⟨⟨pl2,cl2,rfl⟩,pn2,cn2,rfl⟩:=hd3.forms
 obtain⟨n1,hn1⟩: ∃n,dB.lines.length=n:=⟨_,rfl⟩
 obtain⟨n2,hn2⟩: ∃n,dB.nodes.length=n:=⟨_,rfl⟩
 rw[hn1,hn2]
 have HB3:=hid hb3
 clear CB hd3 hb3 hn1 hn2 hw2 hK2
 obtain⟨K4,hK4⟩: ∃K,w3.heap.size=K:=⟨_,rfl⟩
 have b4:=below_alloc1 w3 (.cells #[.string ⟨#[]⟩, .slice pl2 n1 cl2, .slice pn2 n2 cn2] 26)
 have x4:=heap_alloc_new w3 (.cells #[.string ⟨#[]⟩, .slice pl2 n1 cl2, .slice pn2 n2 cn2] 26)
 obtain⟨w4,hw4⟩: ∃W,w3.alloc (.cells #[.string ⟨#[]⟩, .slice pl2 n1 cl2, .slice pn2 n2 cn2] 26)=W:=⟨_,rfl⟩
 rw[hw4] at b4 x4
 rw[hK4] at x4
 have HB4:=hid b4
 have HX4:=hid x4
 clear b4 x4
 have HX4b:=hid (((HB4.out.block K2 (Nat.lt_of_lt_of_le (cell_it HX2.out) HB3.out.size)).trans (HB3.out.block K2 (cell_it HX2.out))).trans HX2.out)
 have HB24:=hid (below_of_new HB3.out HB4.out)
 have HV4:=hid (HV2.out.keep HB24.out)
 have HD4:=hid (HD2.out.keep HB24.out)
 have CN:=hid (yNodeD_any sA12 dA12 dA_B dA_64 _ _ _ 0 5 w4 dA_T HD4.out HV4.out)
 rw[dA_node] at CN
 obtain⟨y0,y1,y2,_⟩:=box3f HX4b.out
 have hsimp:(if(2:Int)=0 then bs sB12 else⟨#[]⟩)=(⟨#[]⟩:ByteArray):=if_neg (by decide)
 go_wp2_with fail
 refine CN.out.mono ?_
 rintro e w5 ⟨⟨kv,iv,rfl,hv5⟩,hb5⟩
 obtain⟨pk,ck,pi,ci,hkv,hiv⟩:=hv5.toVD.form
 rw[show vA12.keys.length=2 from rfl] at hkv
 rw[show vA12.items.length=2 from rfl] at hiv
 subst hkv hiv
 have HB5:=hid hb5
 have HV5:=hid hv5.toVD
 unfold vv
 rw[show vA12.kind=6 from rfl,show vA12.text= [] from rfl]
 clear CN hv5 hb5 y0 y1 y2 hw4 hK4
 obtain⟨K6,hK6⟩: ∃K,w5.heap.size=K:=⟨_,rfl⟩
 have b6:=below_alloc1 w5 (.cells #[.int .i64 6, .string (bs []), .slice pk 2 ck, .slice pi 2 ci] 36)
 have x6:=heap_alloc_new w5 (.cells #[.int .i64 6, .string (bs []), .slice pk 2 ck, .slice pi 2 ci] 36)
 obtain⟨w6,hw6⟩: ∃W,w5.alloc (.cells #[.int .i64 6, .string (bs []), .slice pk 2 ck, .slice pi 2 ci] 36)=W:=⟨_,rfl⟩
 rw[hw6] at b6 x6
 rw[hK6] at x6
 have HB6:=hid b6
 have HX6:=hid x6
 clear b6 x6
 have HB46:=hid (below_of_new HB5.out HB6.out)
 have HX4c:=hid ((HB46.out.block K2 (cell_it HX4b.out)).trans HX4b.out)
 have HD6:=hid (HD4.out.keep HB46.out)
 have HVD6:=hid (HV5.out.keep HB6.out)
 have CL:=hid (yliteralD_yes sA12 dA12 (.slice pl 6 cl) (.slice pn 5 cn) _ w6 HD6.out dA_B dA_64 4 _ rfl rfl)
 rw[dA_lit] at CL
 obtain⟨y0,y1,y2,_⟩:=box3f HX4c.out
 go_wp2_with fail
 refine CL.out.mono ?_
 rintro e w7 ⟨rfl,hb7⟩
 have HB7:=hid hb7
 clear hb7
 have HB47:=hid (below_of_new HB46.out HB7.out)
 clear y0 y1 y2 hw6 hK6 CL
 obtain⟨K8,hK8⟩: ∃K,w7.heap.size=K:=⟨_,rfl⟩
 have b8:=below_alloc1 w7 (.cells #[.string ⟨#[97]⟩, .string ⟨#[98]⟩] 9)
 have x8:=heap_alloc_new w7 (.cells #[.string ⟨#[97]⟩, .string ⟨#[98]⟩] 9)
 obtain⟨w8,hw8⟩: ∃W,w7.alloc (.cells #[.string ⟨#[97]⟩, .string ⟨#[98]⟩] 9)=W:=⟨_,rfl⟩
 rw[hw8] at b8 x8
 rw[hK8] at x8
 have HB8:=hid b8
 have HX8:=hid x8
 clear b8 x8
 have HB48:=hid (below_of_new HB47.out HB8.out)
 have C1:=hid (vnum1_any w8 (HV4.out.keep HB48.out).1)
 go_wp2_with fail
 refine C1.out.mono ?_
 rintro e w9 ⟨rfl,hb9⟩
 have HB9:=hid hb9
 clear hb9
 have HB49:=hid (below_of_new HB48.out HB9.out)
 have C2:=hid (vof_any [120] w9)
 clear hw8 C1
 go_wp2_with fail
 refine C2.out.mono ?_
 rintro e w10 ⟨rfl,hb10⟩
 have HB10:=hid hb10
 clear hb10
 have C3:=hid (vof_any [112,10,113,10] w10)
 clear C2
 go_wp2_with fail
 refine C3.out.mono ?_
 rintro e w11 ⟨rfl,hb11⟩
 have HB11:=hid hb11
 clear hb11
 have HB411:=hid (below_of_new HB49.out (below_of_new HB10.out HB11.out))
 clear C3
 obtain⟨K12,hK12⟩: ∃K,w11.heap.size=K:=⟨_,rfl⟩
 have b12:=below_alloc1 w11 (.cells #[.int .i64 4, .string (bs [120]), .slice none 0 0, .slice none 0 0, .int .i64 4, .string (bs [112,10,113,10]), .slice none 0 0, .slice none 0 0] 36)
 have x12:=heap_alloc_new w11 (.cells #[.int .i64 4, .string (bs [120]), .slice none 0 0, .slice none 0 0, .int .i64 4, .string (bs [112,10,113,10]), .slice none 0 0, .slice none 0 0] 36)
 obtain⟨w12,hw12⟩: ∃W,w11.alloc (.cells #[.int .i64 4, .string (bs [120]), .slice none 0 0, .slice none 0 0, .int .i64 4, .string (bs [112,10,113,10]), .slice none 0 0, .slice none 0 0] 36)=W:=⟨_,rfl⟩
 rw[hw12] at b12 x12
 rw[hK12] at x12
 have HB12:=hid b12
 have HX12:=hid x12
 clear b12 x12
 have C4:=hid (lrow_any (some ⟨K12,0,none⟩) 2 2 w12)
 go_wp2_with fail
 refine C4.out.mono ?_
 rintro e w13 ⟨rfl,hb13⟩
 have HB13:=hid hb13
 clear hb13
 have HB413:=hid (below_of_new HB411.out (below_of_new HB12.out HB13.out))
 clear C4 hw12
 obtain⟨K14,hK14⟩: ∃K,w13.heap.size=K:=⟨_,rfl⟩
 have b14:=below_alloc1 w13 (.cells #[.int .i64 3, .string (bs [49]), .slice none 0 0, .slice none 0 0, .int .i64 5, .string ⟨#[]⟩, .slice none 0 0, .slice (some ⟨K12,0,none⟩) 2 2] 36)
 have x14:=heap_alloc_new w13 (.cells #[.int .i64 3, .string (bs [49]), .slice none 0 0, .slice none 0 0, .int .i64 5, .string ⟨#[]⟩, .slice none 0 0, .slice (some ⟨K12,0,none⟩) 2 2] 36)
 obtain⟨w14,hw14⟩: ∃W,w13.alloc (.cells #[.int .i64 3, .string (bs [49]), .slice none 0 0, .slice none 0 0, .int .i64 5, .string ⟨#[]⟩, .slice none 0 0, .slice (some ⟨K12,0,none⟩) 2 2] 36)=W:=⟨_,rfl⟩
 rw[hw14] at b14 x14
 rw[hK14] at x14
 have HB14:=hid b14
 have HX14:=hid x14
 clear b14 x14
 have C5:=hid (lmap_any (some ⟨K8,0,none⟩) 2 2 (some ⟨K14,0,none⟩) 2 2 w14)
 go_wp2_with fail
 refine C5.out.mono ?_
 rintro e w15 ⟨rfl,hb15⟩
 have HB15:=hid hb15
 clear hb15
 have HB415:=hid (below_of_new HB413.out (below_of_new HB14.out HB15.out))
 clear C5 hw14
 obtain⟨K16,hK16⟩: ∃K,w15.heap.size=K:=⟨_,rfl⟩
 have b16:=below_alloc1 w15 (.cells #[.int .i64 6, .string ⟨#[]⟩, .slice (some ⟨K8,0,none⟩) 2 2, .slice (some ⟨K14,0,none⟩) 2 2] 36)
 have x16:=heap_alloc_new w15 (.cells #[.int .i64 6, .string ⟨#[]⟩, .slice (some ⟨K8,0,none⟩) 2 2, .slice (some ⟨K14,0,none⟩) 2 2] 36)
 obtain⟨w16,hw16⟩: ∃W,w15.alloc (.cells #[.int .i64 6, .string ⟨#[]⟩, .slice (some ⟨K8,0,none⟩) 2 2, .slice (some ⟨K14,0,none⟩) 2 2] 36)=W:=⟨_,rfl⟩
 rw[hw16] at b16 x16
 rw[hK16] at x16
 have HB16:=hid b16
 have HX16:=hid x16
 clear b16 x16
 have HB816:=hid (below_of_new HB9.out (below_of_new HB10.out (below_of_new HB11.out (below_of_new HB12.out (below_of_new HB13.out (below_of_new HB14.out (below_of_new HB15.out HB16.out)))))))
 have HB1216:=hid (below_of_new HB13.out (below_of_new HB14.out (below_of_new HB15.out HB16.out)))
 have HB1416:=hid (below_of_new HB15.out HB16.out)
 have hx8:=(HB816.out.block _ (cell_it HX8.out)).trans HX8.out
 have hx12:=(HB1216.out.block _ (cell_it HX12.out)).trans HX12.out
 have hx14:=(HB1416.out.block _ (cell_it HX14.out)).trans HX14.out
 have HVD16:Hid (VD w16 3 vA12 (.slice (some ⟨K8,0,none⟩) 2 2) (.slice (some ⟨K14,0,none⟩) 2 2)):=hid (VD.two (SV.two hx8) hx14 (VD.leaf w16 1 3 [49]) (VD.two (n:=1) (kv:= .slice none 0 0) ⟨none,0,rfl,Nat.le_refl _, .inl rfl⟩ hx12 (VD.leaf w16 0 4 [120]) (VD.leaf w16 0 4 [112,10,113,10])))
 have HB416:=hid (below_of_new HB415.out HB16.out)
 have HB616:=hid (below_of_new HB7.out (below_of_new HB8.out HB816.out))
 have HVN16:Hid (VD w16 3 vA12 (.slice pk 2 ck) (.slice pi 2 ci)):=hid (HVD6.out.keep HB616.out)
 have HX6b:=hid ((HB616.out.block _ (cell_it HX6.out)).trans HX6.out)
 have HX2b:=hid ((HB416.out.block _ (cell_it HX4b.out)).trans HX4b.out)
 have CE:=hid (fun w' (hb:Below w16.heap.size w16 w')=>Calls.mono (requalB_any 3 vA12 vA12 _ _ _ _ w' (HVN16.out.keep hb) (HVD16.out.keep hb) vA_lens vA_lens) (fun e w2 h=>(show e= .returned (.bool true)∧Below w'.heap.size w' w2 from by obtain⟨⟨b,he,ht⟩,h2⟩:=h;exact⟨by rw[he,ht rfl],h2⟩)))
 have HB:=hid (below_of_new HB1.out (below_of_new HB2.out (below_of_new HB24.out HB416.out)))
 obtain⟨y0,y1,y2,_⟩:=box3f HX2b.out
 obtain⟨a0,a1,a2,a3,_⟩:=box4 HX6b.out
 obtain⟨c0,c1,c2,c3,_⟩:=box4 HX16.out
 clear hx8 hx12 hx14
 go_wp2_with fail
 refine(CE.out _ (by first | exact Below.refl _ _ | exact(Below.refl _ _).drew)).mono ?_
 rintro e w17 ⟨rfl,hb17⟩
 have HBz:=hid (below_of_new HB.out (show Below w16.heap.size w16 w17 from by first | exact hb17 | exact below_of_new (Below.refl _ _).drew hb17))
 have e1:((bs [112,10,113,10]).toList== [112,10,113,10])=true:=str_is rfl
 clear hb17
 go_wp2_with fail
 go_ret
 exact⟨rfl,HBz.out⟩
end Go.Proofs.YtlibkhbachmcgaaGreatDoor
