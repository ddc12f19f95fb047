import Derived.Test.YtlibkhbachmcgaaGreatDoorRe29
import Derived.Test.YtlibkhbachmcgaaGreatDoorRe15
import Derived.Test.YtlibkhbachmcgaaGreatDoorRe13
import Derived.Deep.RegionHeld3
import Derived.Shelf.Vars
import Derived.Test.YtlibkhbachmcgaaGreatDoorCards
import Derived.Test.YtlibkhbachmcgaaGreatDoorTie
import Derived.Lib.LaidIn
import Derived.Lib.LaidU8T
import Derived.PinnedBridge
import Derived.Lib.TrailingZeros
import Derived.Test.YtlibkhbachmcgaaGreatDoorRows
import Derived.ChangeMaps5
import Derived.ChangeArms
import Derived.ChangeSame
import Derived.ChangeSlices
import Derived.OpenShut
import Derived.Carry
import Derived.Deep.Slices
import Derived.Lib.SmallJoins
import Derived.KernelRfl
set_option maxRecDepth 100000
set_option maxHeartbeats 8000000
namespace Go.Proofs.YtlibkhbachmcgaaGreatDoor
set_option linter.unusedSimpArgs false
set_option linter.unusedVariables false
open Go.RowKit
open Go.Lib hiding intOf
theorem YDocAt.nodeAt {B:Nat}{d:YDoc}{lv:Value}{gn n cn:Nat}{w:World} (h:YDocAt B d lv (.slice (some ⟨gn,0,none⟩) n cn) w) {k:Nat}{x:YND} (hx:d.nodes[k]?=some x):
  n=d.nodes.length∧ ∃pk ck,(∀j u,j<9→(yndCells (x, .slice pk x.kids.length ck))[j]?=some u→w.cell? ⟨gn,k*9+j,none⟩=some u)∧ ∀(j q:Nat),x.kids[j]?=some q→ ∃gk,pk=some ⟨gk,0,none⟩∧w.cell? ⟨gk,j,none⟩=some (.int .i64 (q:Int)):=by
 obtain⟨z,hz,_,hnd⟩:=h
 obtain⟨y,hy⟩: ∃y,z[k]?=some y:=by
  rw[←hz,List.getElem?_map] at hx
  cases hq:z[k]? with
  | none=>rw[hq] at hx;cases hx
  | some q=>exact⟨q,rfl⟩
 have hyx:y.1=x:=by
  rw[←hz,List.getElem?_map,hy] at hx
  exact Option.some.inj hx
 obtain⟨g2,c2,cur,e,_⟩:=hnd.form (fun e=>by rw[e] at hy;cases hy)
 injection e with e1 e2 e3
 injection e1 with e1
 injection e1 with e1
 subst e1 e2 e3
 have hkm:=hnd.kids y (List.mem_of_getElem? hy)
 obtain⟨pk,ck,hkv⟩: ∃p c,y.2= .slice p y.1.kids.length c:=by
  rcases hkm.2 with⟨h0,h1⟩ | ⟨g,cap,cur,h1,_⟩
  ·exact⟨none,0,by rw[h0,h1]⟩
  ·exact⟨_,cap,h1⟩
 have hzl:z.length=d.nodes.length:=by rw[←hz,List.length_map]
 refine⟨hzl,pk,ck,fun j u hj hu=>?_,fun j q hj=>?_⟩
 ·refine(hnd.at_ hy j hj (u:=u) ?_).1
  rw[←hu,←hyx,←hkv]
 ·rw[hkv,hyx] at hkm
  have hjl:=(List.getElem?_eq_some_iff.1 hj).1
  rcases hkm.2 with⟨h0,h1⟩ | ⟨g,cap,cur,h1,_⟩
  ·omega
  ·injection h1 with e1
   subst e1
   refine⟨g,rfl,?_⟩
   rw[World.ownsRow.cellAt hkm _ (by omega)]
   unfold intCells
   rw[List.getElem?_map,hj];rfl
def litB (d:YDoc):Bool:=d.nodes.any fun x=>x.kind==4
theorem literal_any (B:Nat) (d:YDoc) (tx:ByteArray) (lv:Value) (gn n cn:Nat) (w:World) (h:YDocAt B d lv (.slice (some ⟨gn,0,none⟩) n cn) w) (hn:d.nodes.length=n) (hn2:n≤1048576):
  Calls Tryz.prog 20 #[.agg #[.string tx,lv, .slice (some ⟨gn,0,none⟩) n cn]] w fun e w'=>e= .returned (.bool (litB d))∧Below w.heap.size w w':=by
 obtain⟨D,hDe⟩: ∃K,w.heap.size=K:=⟨_,rfl⟩
 have b3:=below_alloc1 w (.cells #[.string tx,lv, .slice (some ⟨gn,0,none⟩) n cn] 26)
 have x3:=heap_alloc_new w (.cells #[.string tx,lv, .slice (some ⟨gn,0,none⟩) n cn] 26)
 obtain⟨w3,hw3⟩: ∃W,w.alloc (.cells #[.string tx,lv, .slice (some ⟨gn,0,none⟩) n cn] 26)=W:=⟨_,rfl⟩
 rw[hw3] at b3 x3
 rw[hDe] at x3
 have HB3:Hid (Below w.heap.size w w3):=hid b3
 have HDX:Hid (∀w',Below w3.heap.size w3 w'→w'.cell? ⟨D,2,none⟩=some (.slice (some ⟨gn,0,none⟩) n cn)):=hid (fun w' h=>by
  obtain⟨_,_,e2,_⟩:=box3f ((h.block D (cell_it x3)).trans x3)
  exact e2)
 have HDoc:Hid (∀w',Below w3.heap.size w3 w'→YDocAt B d lv (.slice (some ⟨gn,0,none⟩) n cn) w'):=hid (fun w' hb=>(h.keep b3).keep hb)
 have HN:=hid hn
 clear b3 x3 h hn
 go_enter Tryz.func20,Tryz.ntmps20
 go_wp2_with fail
 go_loopw [3] (fun s3 wr=> ∃k:Nat,s3= .int .i64 (k:Int)∧k≤n∧Hid (∀j x,j<k→d.nodes[j]?=some x→x.kind≠4)∧Hid (Below w3.heap.size w3 wr)) (fun s3 _=>n-(RowKit.intOf s3).toNat)
 case atStart=>exact⟨0,rfl,Nat.zero_le _,hid (fun j x h=>absurd h (Nat.not_lt_zero _)),hid (by first | exact Below.refl _ _ | exact(Below.refl _ _).drew)⟩
 case round=>
  obtain⟨k,rfl,hk,HNo,HBr⟩:=hrel
  have c2:=HDX.out wr HBr.out
  by_cases hkn:k<n
  rotate_left
  ·obtain rfl:k=n:=by omega
   have dk:decide ((k:Int)<(k:Int))=false:=decide_eq_false (by omega)
   have HF:Hid (litB d=false):=hid (by
    unfold litB
    rw[List.any_eq_false]
    intro x hx
    obtain⟨j,hj⟩:=List.getElem?_of_mem hx
    have h1:=(List.getElem?_eq_some_iff.1 hj).1
    rw[HN.out] at h1
    have:=HNo.out j x h1 hj
    simpa using this)
   go_wp2_with fail
   go_ret
   exact⟨by rw[HF.out];first | done | rfl | simp,by first | exact below_of_new HB3.out HBr.out | exact(below_of_new HB3.out HBr.out).drew⟩
  have dk:decide ((k:Int)<(n:Int))=true:=decide_eq_true (by omega)
  have dkb:decide (k<n)=true:=decide_eq_true hkn
  have hk0:(0:Int)≤(k:Int):=by omega
  have hk1:(k:Int)<(n:Int):=by omega
  obtain⟨x,hx⟩: ∃x,d.nodes[k]?=some x:=⟨_,List.getElem?_eq_getElem (by have:=HN.out;omega)⟩
  obtain⟨_,pk,ck,hcell,_⟩:=(HDoc.out wr HBr.out).nodeAt hx
  have y0:=hcell 0 _ (by omega) rfl
  simp only[Nat.add_zero] at y0
  obtain⟨K,hK⟩: ∃K,x.kind=K:=⟨_,rfl⟩
  rw[hK] at y0
  have HX:=hid (And.intro hx hK)
  clear hcell hx hK
  by_cases h4:K=4
  ·have b4:((K:Int)==4)=true:=by rw[h4];rfl
   have b4b:(K==4)=true:=by rw[h4];rfl
   have HF:Hid (litB d=true):=hid (by
    unfold litB
    rw[List.any_eq_true]
    exact⟨x,List.mem_of_getElem? HX.out.1,by rw[HX.out.2];exact b4b⟩)
   clear h4
   go_wp2_with fail
   go_ret
   exact⟨by rw[HF.out];first | done | rfl | simp,by first | exact below_of_new HB3.out HBr.out | exact(below_of_new HB3.out HBr.out).drew⟩
  ·have b4:((K:Int)==4)=false:=beq_eq_false_iff_ne.2 (by omega)
   have b4b:(K==4)=false:=beq_eq_false_iff_ne.2 h4
   have HNo2:Hid (∀j x,j<k+1→d.nodes[j]?=some x→x.kind≠4):=hid (fun j y hj hy=>by
    rcases Nat.lt_succ_iff_lt_or_eq.1 hj with h | h
    ·exact HNo.out j y h hy
    ·rw[h,HX.out.1] at hy
     rw[←Option.some.inj hy,HX.out.2];exact h4)
   clear h4
   go_wp2_with fail
   go_roundw
   ·exact⟨k+1,by go_num,by omega,HNo2,by first | exact HBr | exact hid HBr.out.drew⟩
   ·simp only[RowKit.intOf];omega
end Go.Proofs.YtlibkhbachmcgaaGreatDoor
namespace Go.Proofs.YtlibkhbachmcgaaGreatDoor
set_option linter.unusedSimpArgs false
set_option linter.unusedVariables false
open Go.Lib hiding intOf
def BdN (M:Nat) (ns:List YND):Prop:= ∀x∈ns,x.fr≤M∧x.til≤M
def BdR (M:Nat) (R:YR):Prop:= ∀n st,R= .ok n st→BdN M st.nodes
def BdV (M:Nat) (V:YB):Prop:= ∀k kf kt st,k<M→BdN M st.nodes→BdR M (V k kf kt st)
theorem BdN.snoc {M:Nat}{ns:List YND}{x:YND} (h:BdN M ns) (hx:x.fr≤M∧x.til≤M):BdN M (ns++ [x]):=by
 intro y hy
 rcases List.mem_append.1 hy with h1 | h1
 ·exact h y h1
 ·rw[List.mem_singleton.1 h1];exact hx
theorem BdN.til {M:Nat}{ns:List YND} (h:BdN M ns) (k:Nat):toOf ns k≤M:=by
 unfold toOf
 split
 ·rename_i x hx;exact(h x (List.mem_of_getElem? hx)).2
 ·exact Nat.zero_le _
theorem BdN.mod {M:Nat}{f:YND→YND} (hf: ∀x:YND,x.fr≤M∧x.til≤M→(f x).fr≤M∧(f x).til≤M): ∀ {n:Nat}{ns:List YND},BdN M ns→BdN M (modY f n ns)
 | _,[],h=>by unfold modY;exact h
 | 0,x::l,h=>fun y hy=>by
  rcases List.mem_cons.1 hy with e | e
  ·rw[e];exact hf x (h x (List.mem_cons_self ..))
  ·exact h y (List.mem_cons_of_mem _ e)
 | n+1,x::l,h=>fun y hy=>by
  rcases List.mem_cons.1 hy with e | e
  ·rw[e];exact h x (List.mem_cons_self ..)
  ·exact BdN.mod hf (n:=n) (ns:=l) (fun z hz=>h z (List.mem_cons_of_mem _ hz)) y e
theorem reach_le {s:Stp}{ind:Int}{M:Nat}: ∀(r:List (Nat×Nat)) (i til first:Nat),til≤M→i+r.length≤M→reachG s ind r i til first≤M
 | [],_,_,_,h,_=>h
 | x::r,i,til,first,h,h2=>by
  rw[List.length_cons] at h2
  unfold reachG
  split
  ·exact reach_le r _ _ _ h (by omega)
  ·split
   ·exact h
   ·exact reach_le r _ _ _ (by omega) (by omega)
theorem restM_bd {s:Stp}{lv M:Nat}:BdV M (restM s lv):=by
 intro k kf kt st hk h n st' e
 unfold restM at e
 split at e
 ·cases e
 ·rename_i n1 s1 h1
  obtain⟨rfl,rfl,_,_⟩:=addM_ok h1
  simp only[] at e
  split at e
  ·cases e
  ·split at e
   ·cases e
   ·split at e
    ·cases e
    ·injection e with e1 e2
     subst e2
     exact h.snoc ⟨by simp only[];omega,by simp only[];omega⟩
theorem literalM_bd {s:Stp}{sp:List (Nat×Nat)}{lv:Nat}:BdV sp.length (literalM s sp lv):=by
 intro k kf kt st hk h n st' e
 unfold literalM at e
 split at e
 ·cases e
 ·rename_i n1 s1 h1
  obtain⟨rfl,rfl,_,_⟩:=addM_ok h1
  simp only[] at e
  split at e
  ·cases e
  ·injection e with e1 e2
   subst e2
   refine h.snoc ⟨by simp only[];omega,?_⟩
   exact reach_le _ _ _ _ (by omega) (by rw[List.length_drop];omega)
theorem ymValue_bd {s:Stp}{sp:List (Nat×Nat)}{B:YB}{lv:Nat} (hB:BdV sp.length B):BdV sp.length (ymValue s sp B lv):=by
 intro k kf kt st hk h
 unfold ymValue
 simp only[]
 split
 ·exact literalM_bd k kf kt st hk h
 ·split
  ·split
   ·intro n st' e;cases e
   ·rename_i nx ls hm
    split
    ·rename_i hc
     exact hB nx kf kt ⟨ls,st.nodes,st.total⟩ hc.1 h
    ·exact restM_bd k kf kt _ hk h
  ·exact restM_bd k kf kt _ hk h
theorem ymOne_bd {s:Stp}{sp:List (Nat×Nat)}{V:YB} (hV:BdV sp.length V) {map:Bool}{n:Nat}{ind:Int}{had had':List Stp}{k nx:Nat}{st s3:YS} (hk:k<sp.length) (hN:BdN sp.length st.nodes) (h:ymOne s sp V map n ind had k st= .ok nx s3 had'):BdN sp.length s3.nodes:=by
 have ho:BdR sp.length (oneM s V map had k st).1:=by
  unfold oneM
  split
  ·simp only[]
   split
   ·intro n st' e;cases e
   ·split
    ·intro n st' e;cases e
    ·exact hV _ _ _ _ hk hN
  ·exact hV _ _ _ _ hk hN
 unfold ymOne at h
 obtain⟨⟨Q,had2⟩,hQ⟩: ∃Q,oneM s V map had k st=Q:=⟨_,rfl⟩
 rw[hQ] at h ho
 cases Q with
 | bad a e=>cases h
 | ok kid s2=>
  have h2:=ho kid s2 rfl
  simp only[] at h
  split at h
  ·cases h
  ·split at h
   ·cases h
   ·injection h with e1 e2 e3
    subst e2
    exact BdN.mod (f:=fun x=> { x with kids:=x.kids++ [kid],til:=toOf s2.nodes kid }) (fun x hx=>⟨hx.1,h2.til kid⟩) h2
theorem ymLoop_bd {s:Stp}{sp:List (Nat×Nat)}{V:YB} (hV:BdV sp.length V) {map:Bool}{n:Nat}{ind kind:Int}: ∀(f:Nat) (had:List Stp) (k:Nat) (st:YS),BdN sp.length st.nodes→BdR sp.length (ymLoop s sp V map n ind kind f had k st)
 | 0,had,k,st,h=>fun n st' e=>by
  injection e with e1 e2
  subst e2;exact h
 | f+1,had,k,st,h=>by
  unfold ymLoop
  split
  ·rename_i hc
   cases ho:ymOne s sp V map n ind had k st with
   | bad a e=>intro n st' e;cases e
   | ok nx s2 had'=>exact ymLoop_bd hV f had' nx s2 (ymOne_bd hV hc.1 h ho)
  ·intro n st' e
   injection e with e1 e2
   subst e2;exact h
theorem ymBlockS_bd {s:Stp}{sp:List (Nat×Nat)}{V:YB} (lv:Nat) (hV:BdV sp.length V):BdV sp.length (ymBlockS s sp V lv):=by
 intro k kf kt st hk h
 unfold ymBlockS
 simp only[]
 split
 ·exact restM_bd k kf kt st hk h
 ·split
  ·intro n st' e;cases e
  ·rename_i n1 s1 h1
   obtain⟨rfl,rfl,_,_⟩:=addM_ok h1
   exact ymLoop_bd hV _ _ _ _ (h.snoc ⟨by simp only[];omega,by simp only[];omega⟩)
theorem ymBlock_bd {s:Stp}{sp:List (Nat×Nat)}: ∀lv,BdV sp.length (ymBlock s sp lv)
 | 0=>ymBlockS_bd 0 (fun _ _ _ _ _ _ n st' e=>by cases e)
 | lv+1=>ymBlockS_bd (lv+1) (ymValue_bd (ymBlock_bd lv))
theorem whole_bd {s:Stp}{d:YDoc}{a er:Int} (h:ymWhole s (spY s)=(d,a,er)):BdN (spY s).length d.nodes:=by
 have hb:=ymBlock_bd (s:=s) (sp:=spY s) 32
 unfold ymWhole at h
 split at h
 ·injection h with e1 e2
  subst e1;intro x hx;cases hx
 ·rename_i k ls hm
  split at h
  ·injection h with e1 e2
   subst e1
   intro x hx
   rw[List.mem_singleton.1 hx]
   exact⟨Nat.zero_le _,Nat.zero_le _⟩
  ·rename_i hk
   have h1:=hb k 0 0 ⟨ls,[],0⟩ (by omega) (fun x hx=>by cases hx)
   revert h
   split
   ·intro h
    injection h with e1 e2
    subst e1;intro x hx;cases hx
   ·rename_i n st hB
    have h2:=h1 n st hB
    split
    ·intro h
     injection h with e1 e2
     subst e1;intro x hx;cases hx
    ·split
     ·intro h
      injection h with e1 e2
      subst e1;intro x hx;cases hx
     ·intro h
      injection h with e1 e2
      subst e1;exact h2
theorem lens_lf (n:Nat) {t:VT} (h1:t.keys.length≤1073741824) (h2:t.items= []):Lens n t:=by
 cases n with
 | zero=>trivial
 | succ n=>exact⟨h1,by rw[h2];exact Nat.zero_le _,fun x hx=>by rw[h2] at hx;cases hx⟩
theorem nodeV_lens {txt:Stp}{ns:List NodeD} (hN:ns.length≤65536): ∀(lv k m n:Nat),TOk ns lv k m→Lens n (nodeV txt ns lv k)
 | 0,_,_,_,h=>h.elim
 | lv+1,k,m,0,h=>trivial
 | lv+1,k,m,n+1,h=>by
  obtain⟨x,hx⟩: ∃x,ns[k]?=some x:=by obtain⟨x,hx,_⟩:=h;exact⟨x,hx⟩
  have hl:=kids_len h hx hN
  have he:nodeV txt ns (lv+1) k= .mk (x.kind:Int) (textV x.kind (slT txt (x.sf,x.st))) (if x.kind=6 then x.kids.map (keyV txt ns) else []) (x.kids.map (nodeV txt ns lv)):=by rw[nodeV,hx]
  rw[he]
  refine⟨?_,?_,fun y hy=>?_⟩
  ·show (if x.kind=6 then x.kids.map (keyV txt ns) else []).length≤_
   split
   ·rw[List.length_map];omega
   ·exact Nat.zero_le _
  ·show (x.kids.map (nodeV txt ns lv)).length≤_
   rw[List.length_map];omega
  ·obtain⟨q,hq,rfl⟩:=List.mem_map.1 (show y∈x.kids.map (nodeV txt ns lv) from hy)
   obtain⟨m2,hm2⟩:=(h.kid hx hq).1
   exact nodeV_lens hN lv q m2 n hm2
theorem readY_lens (t:Stp) (n:Nat):Lens n (readY t).1:=by
 have hr: ∀t,Lens n (resT t):=fun t=>by
  unfold resT
  repeat' split
  all_goals exact lens_lf n (Nat.zero_le _) rfl
 have hz:Lens n zeroT:=lens_lf n (Nat.zero_le _) rfl
 cases t with
 | nil=>exact hr []
 | cons c r=>
  unfold readY
  simp only[]
  split
  ·split
   ·exact hz
   ·exact lens_lf n (Nat.zero_le _) rfl
  ·split
   ·unfold readJ
    split
    ·exact hz
    ·rename_i he
     obtain⟨_,_,_,ns,_,_,hp⟩:=parse_ok (s:=c::r) (by omega)
     have hf:=parse_few (c::r)
     have ht:=parse_tree hp
     rw[hp] at hf
     rw[hp]
     exact nodeV_lens hf 32 0 _ n ht
   ·split
    ·exact hr _
    ·exact hz
theorem nodeYv_lens {s:Stp}{d:YDoc} (hk: ∀(k:Nat) (x:YND),d.nodes[k]?=some x→x.kids.length≤4096): ∀(lv k n:Nat),Lens n (nodeYv s d lv k)
 | _,_,0=>trivial
 | 0,_,n+1=>lens_lf (n+1) (Nat.zero_le _) rfl
 | lv +1,k,n+1=>by
  unfold nodeYv
  split
  ·exact lens_lf (n+1) (Nat.zero_le _) rfl
  ·rename_i x hx
   have hl:=hk k x hx
   split
   ·exact readY_lens _ _
   ·split
    ·exact lens_lf (n+1) (Nat.zero_le _) rfl
    ·refine⟨?_,?_,fun y hy=>?_⟩
     ·show (if x.kind=3 then x.kids.map (keyYv s d.nodes) else []).length≤_
      split
      ·rw[List.length_map];omega
      ·exact Nat.zero_le _
     ·show (x.kids.map (nodeYv s d lv)).length≤_
      rw[List.length_map];omega
     ·obtain⟨q,hq,rfl⟩:=List.mem_map.1 (show y∈x.kids.map (nodeYv s d lv) from hy)
      exact nodeYv_lens hk lv q n
structure DocQ (s:Stp) (d:YDoc):Prop where
 b:DocB s d
 i: ∀l∈d.lines,l.ind≤1099511627776
 t:TKY d.nodes 32 0 d.nodes.length
 c:d.nodes.length≤4096
 l: ∀n,Lens n (nodeYv s d 32 0)
theorem docQ_of {s:Stp}{d:YDoc}{a:Int} (hs:s.length≤65536) (h:parseYm s=(d,a,0)):DocQ s d:=by
 rw[parse_whole hs] at h
 have hT:=whole_tree h
 have hB:=whole_bd h
 have hsl:(spY s).length≤s.length+1:=by
  unfold spY
  rw[cutSp_len]
  exact(linesL_len s 0 0).1
 have hl:d.lines.length≤s.length+1:=Nat.le_trans hT.lns hsl
 have hi: ∀l∈d.lines,0≤l.ind∧l.ind≤(s.length:Int):=by
  intro l hl
  obtain⟨j,hj,e⟩:=List.mem_iff_getElem.1 hl
  have h1:=(hT.ok.2 j hj).ind
  rw[show lnAt d.lines j=l by unfold lnAt;rw[List.getElem?_eq_getElem hj,e];rfl] at h1
  omega
 refine⟨⟨hs,by omega,by have:=hT.cnt;omega,fun x hx=>?_,fun l hl=>(hi l hl).1⟩,fun l hl=>by have:=(hi l hl).2;omega,hT.tree,hT.cnt,fun n=>nodeYv_lens (fun k x hx=>hT.kids hx) 32 0 n⟩
 obtain⟨j,hj,e⟩:=List.mem_iff_getElem.1 hx
 have hxj:d.nodes[j]?=some x:=by rw[List.getElem?_eq_getElem hj,e]
 have h1:=hB x hx
 have h2:=hT.kids hxj
 exact⟨by omega,by omega,by omega⟩
theorem moves_all (s:Stp) (j:Nat) (hj:j≤7) (hs:s.length≤2048): ∃d0 n0 d1 n1 d2 n2 er,parseYm s=(d0,n0,er)∧parseYm (movedL j s)=(d1,n1,er)∧parseYm (framedL s)=(d2,n2,er)∧
  (er=0→DocQ s d0∧DocQ (movedL j s) d1∧DocQ (framedL s) d2∧nodeYv (movedL j s) d1 32 0=nodeYv s d0 32 0∧(litB d0=false→nodeYv s d0 32 0=nodeYv (framedL s) d2 32 0)):=by
 have h1:=moves1 j s hj hs
 have h2:=moves2 s hs
 have hl:=moved_len j s
 have hl2:s.length*(j+1)≤2048*8:=Nat.mul_le_mul hs (by omega)
 have hf:(framedL s).length=s.length+16:=by unfold framedL;simp
 obtain⟨⟨d0,n0,e0⟩,hP0⟩: ∃R,parseYm s=R:=⟨_,rfl⟩
 obtain⟨⟨d1,n1,e1⟩,hP1⟩: ∃R,parseYm (movedL j s)=R:=⟨_,rfl⟩
 obtain⟨⟨d2,n2,e2⟩,hP2⟩: ∃R,parseYm (framedL s)=R:=⟨_,rfl⟩
 rw[hP0,hP1] at h1
 rw[hP0,hP2] at h2
 obtain⟨h1e,h1v⟩:=h1
 obtain⟨h2e,h2v⟩:=h2
 simp only[] at h1e h1v h2e h2v
 subst h1e h2e
 refine⟨d0,n0,d1,n1,d2,n2,_,hP0,hP1,hP2,fun he=>?_⟩
 subst he
 refine⟨docQ_of (by omega) hP0,docQ_of (by omega) hP1,docQ_of (by omega) hP2,h1v rfl,fun hn=>(h2v rfl (fun x hx h4=>?_)).symm⟩
 unfold litB at hn
 rw[List.any_eq_false] at hn
 exact hn x hx (by rw[h4];rfl)
end Go.Proofs.YtlibkhbachmcgaaGreatDoor
namespace Go.Proofs.YtlibkhbachmcgaaGreatDoor
set_option linter.unusedSimpArgs false
set_option linter.unusedVariables false
open Go.RowKit
open Go.Lib hiding intOf
theorem YDocAt.box {B:Nat}{d:YDoc}{lv nv:Value}{w:World} (h:YDocAt B d lv nv w) (h0:d.nodes≠ []): ∃gn cn,nv= .slice (some ⟨gn,0,none⟩) d.nodes.length cn:=by
 obtain⟨z,hz,_,hnd⟩:=h
 have hzl:z.length=d.nodes.length:=by rw[←hz,List.length_map]
 obtain⟨g,cap,cur,e,_⟩:=hnd.form (fun e=>by rw[e] at hzl;have:=List.length_pos_iff.2 h0;simp at hzl;omega)
 exact⟨g,cap,by rw[e,hzl]⟩
theorem framed_s (s:Stp):(⟨#[35,32,120,10,10]⟩:ByteArray)++bs s=bs ([35,32,120,10,10]++s):=by
 rw[show (⟨#[35,32,120,10,10]⟩:ByteArray)=bs [35,32,120,10,10] from rfl,bs_append]
theorem framed_t (s:Stp):bs ([35,32,120,10,10]++s)++(⟨#[10,32,32,10,32,32,32,32,35,32,121]⟩:ByteArray)=bs (framedL s):=by
 rw[show (⟨#[10,32,32,10,32,32,32,32,35,32,121]⟩:ByteArray)=bs [10,32,32,10,32,32,32,32,35,32,121] from rfl,bs_append];rfl
theorem yamlMoves_any (sb:ByteArray) (n:Int) (w:World) (hV:AVar w):
  Calls Tryz.prog 6 #[.string sb, .int .i64 n] w fun e w'=>e= .returned (.bool true)∧Below w.heap.size w w':=by
 obtain⟨s,rfl⟩: ∃l,sb=bs l:=⟨sb.data.toList,(bs_of sb).symm⟩
 have sl:=bs_size s
 have HV:=hid hV
 have C0:=hid (small12_any w hV)
 obtain⟨j,hj,hjn⟩:=andL7 n
 have HJ:=hid hj
 have CM:Hid (s.length≤2048→ ∀w':World,Calls Tryz.prog 19 #[.string (bs s), .int .i64 (j:Int)] w' fun e w2=>e= .returned (.string (bs (movedL j s)))∧Below w'.heap.size w' w2):=hid (fun h w'=>moved_any s j w' hj (by omega))
 have CA:=hid (moves_all s j hj)
 clear hV hj
 go_enter Tryz.func6,Tryz.ntmps6
 go_wp2_with fail
 refine C0.out.mono ?_
 rintro e w0 ⟨rfl,hb0⟩
 have HB0:=hid hb0
 clear hb0
 by_cases hl:2048<s.length
 ·have dl:decide ((2048:Int)<(s.length:Int))=true:=decide_eq_true (by omega)
  have dl2:decide (2048<s.length)=true:=decide_eq_true hl
  clear hl
  go_wp2_with fail
  go_ret
  exact⟨rfl,by first | exact HB0.out | exact HB0.out.drew⟩
 have dl:decide ((2048:Int)<(s.length:Int))=false:=decide_eq_false (by omega)
 have dl2:decide (2048<s.length)=false:=decide_eq_false hl
 have CM:=hid (CM.out (by omega))
 obtain⟨d0,n0,d1,n1,d2,n2,er,hP0,hP1,hP2,hA⟩:=CA.out (by omega)
 have HA:=hid hA
 have g0:=framed_s s
 have g1:=framed_t s
 have zM:=bs_size (movedL j s)
 have zM2:(movedL j s).length≤20000:=by
  have h1:=moved_len j s
  have h2:=HJ.out
  have h3:s.length*(j+1)≤2048*8:=Nat.mul_le_mul (by omega) (by omega)
  omega
 have zB:(bs ([35,32,120,10,10]++s:Stp)).size=s.length+5:=by rw[bs_size,List.length_append];simp;omega
 have hsl:s.length≤2048:=by omega
 have CP0:Hid (∀w',Below w.heap.size w w'→Calls Tryz.prog 11 #[.string (bs s)] w' (YPE s (d0,n0,er) w')):=hid (fun w' h=>by
  have:=yparse_any s w' (HV.out.keep h)
  rw[hP0] at this
  exact this)
 have CP1:Hid (∀w',Below w.heap.size w w'→Calls Tryz.prog 11 #[.string (bs (movedL j s))] w' (YPE (movedL j s) (d1,n1,er) w')):=hid (fun w' h=>by
  have:=yparse_any (movedL j s) w' (HV.out.keep h)
  rw[hP1] at this
  exact this)
 have CP2:Hid (∀w',Below w.heap.size w w'→Calls Tryz.prog 11 #[.string (bs (framedL s))] w' (YPE (framedL s) (d2,n2,er) w')):=hid (fun w' h=>by
  have:=yparse_any (framedL s) w' (HV.out.keep h)
  rw[hP2] at this
  exact this)
 clear hP0 hP1 hP2 hA CA hl
 obtain⟨M,hM⟩: ∃M,movedL j s=M:=⟨_,rfl⟩
 obtain⟨F,hF⟩: ∃M,framedL s=M:=⟨_,rfl⟩
 rw[hM] at CM HA zM zM2 CP1
 rw[hF] at HA g1 CP2
 obtain⟨B1,hB1⟩: ∃M:Stp,[35,32,120,10,10]++s=M:=⟨_,rfl⟩
 rw[hB1] at g0 g1 zB
 clear hM hF hB1
 go_wp2_with fail
 refine(CP0.out _ (by first | exact HB0.out | exact HB0.out.drew)).mono ?_
 rintro e a0 ⟨tx0,lv0,nv0,rfl,htx,hd,hb⟩
 simp only[] at htx
 obtain⟨⟨pl0,cl0,hpl⟩,pn0,cn0,hpn⟩:=hd.forms
 obtain⟨nl0,hnl⟩: ∃n,d0.lines.length=n:=⟨_,rfl⟩
 obtain⟨nn0,hnn⟩: ∃n,d0.nodes.length=n:=⟨_,rfl⟩
 simp only[] at hpl hpn
 rw[hnl] at hpl
 rw[hnn] at hpn
 subst hpl hpn
 have HA0:Hid (Below w.heap.size w a0):=hid (by first | exact below_of_new HB0.out hb | exact below_of_new HB0.out.drew hb)
 have HN0:=hid hnn
 have HT0:=hid htx
 obtain⟨D0,hDe0⟩: ∃K,a0.heap.size=K:=⟨_,rfl⟩
 have b3:=below_alloc1 a0 (.cells #[.string tx0, .slice pl0 nl0 cl0, .slice pn0 nn0 cn0] 26)
 have x3:=heap_alloc_new a0 (.cells #[.string tx0, .slice pl0 nl0 cl0, .slice pn0 nn0 cn0] 26)
 obtain⟨e0,he0⟩: ∃W,a0.alloc (.cells #[.string tx0, .slice pl0 nl0 cl0, .slice pn0 nn0 cn0] 26)=W:=⟨_,rfl⟩
 rw[he0] at b3 x3
 rw[hDe0] at x3
 have HE0:=hid (below_of_new HA0.out b3)
 have HDX0:Hid (∀w',Below e0.heap.size e0 w'→w'.cell? ⟨D0,0,none⟩=some (.string tx0)∧w'.cell? ⟨D0,1,none⟩=some (.slice pl0 nl0 cl0)∧w'.cell? ⟨D0,2,none⟩=some (.slice pn0 nn0 cn0)):=hid (fun w' h=>by
  obtain⟨q0,q1,q2,_⟩:=box3f ((h.block D0 (cell_it x3)).trans x3)
  exact⟨q0,q1,q2⟩)
 have HDoc0:Hid (∃B,∀w',Below e0.heap.size e0 w'→YDocAt B d0 (.slice pl0 nl0 cl0) (.slice pn0 nn0 cn0) w'):=hid ⟨_,fun w' h=>(hd.keep b3).keep h⟩
 obtain⟨c0,c1,c2⟩:=HDX0.out e0 (Below.refl _ _)
 simp only[]
 clear b3 x3 hd hb hnl hnn htx CP0
 go_wp2_with fail
 refine(CM.out _).mono ?_
 rintro e wm ⟨rfl,hbm⟩
 have HRm:Hid (Below e0.heap.size e0 wm):=hid (by first | exact hbm | exact below_of_new (Below.refl _ _).drew hbm)
 have HBm:=hid (below_of_new (show Below w.heap.size w _ from by first | exact HE0.out | exact HE0.out.drew) hbm)
 clear hbm c0 c1 c2
 go_wp2_with fail
 refine(CP1.out _ (by first | exact HBm.out | exact HBm.out.drew)).mono ?_
 rintro e a1 ⟨tx1,lv1,nv1,rfl,htx,hd,hb⟩
 simp only[] at htx
 obtain⟨⟨pl1,cl1,hpl⟩,pn1,cn1,hpn⟩:=hd.forms
 obtain⟨nl1,hnl⟩: ∃n,d1.lines.length=n:=⟨_,rfl⟩
 obtain⟨nn1,hnn⟩: ∃n,d1.nodes.length=n:=⟨_,rfl⟩
 simp only[] at hpl hpn
 rw[hnl] at hpl
 rw[hnn] at hpn
 subst hpl hpn
 have HA1:Hid (Below w.heap.size w a1):=hid (by first | exact below_of_new HBm.out hb | exact below_of_new HBm.out.drew hb)
 have HN1:=hid hnn
 have HT1:=hid htx
 obtain⟨D1,hDe1⟩: ∃K,a1.heap.size=K:=⟨_,rfl⟩
 have b3:=below_alloc1 a1 (.cells #[.string tx1, .slice pl1 nl1 cl1, .slice pn1 nn1 cn1] 26)
 have x3:=heap_alloc_new a1 (.cells #[.string tx1, .slice pl1 nl1 cl1, .slice pn1 nn1 cn1] 26)
 obtain⟨e1,he1⟩: ∃W,a1.alloc (.cells #[.string tx1, .slice pl1 nl1 cl1, .slice pn1 nn1 cn1] 26)=W:=⟨_,rfl⟩
 rw[he1] at b3 x3
 rw[hDe1] at x3
 have HE1:=hid (below_of_new HA1.out b3)
 have HE01:Hid (Below e0.heap.size e0 e1):=hid (below_of_new (show Below e0.heap.size e0 a1 from by first | exact below_of_new HRm.out hb | exact below_of_new HRm.out.drew hb) b3)
 have HDX1:Hid (∀w',Below e1.heap.size e1 w'→w'.cell? ⟨D1,0,none⟩=some (.string tx1)∧w'.cell? ⟨D1,1,none⟩=some (.slice pl1 nl1 cl1)∧w'.cell? ⟨D1,2,none⟩=some (.slice pn1 nn1 cn1)):=hid (fun w' h=>by
  obtain⟨q0,q1,q2,_⟩:=box3f ((h.block D1 (cell_it x3)).trans x3)
  exact⟨q0,q1,q2⟩)
 have HDoc1:Hid (∃B,∀w',Below e1.heap.size e1 w'→YDocAt B d1 (.slice pl1 nl1 cl1) (.slice pn1 nn1 cn1) w'):=hid ⟨_,fun w' h=>(hd.keep b3).keep h⟩
 obtain⟨c0,c1,c2⟩:=HDX1.out e1 (Below.refl _ _)
 simp only[]
 clear b3 x3 hd hb hnl hnn htx CP1
 clear c0 c1 c2
 go_wp2_with fail
 refine(CP2.out _ (by first | exact HE1.out | exact HE1.out.drew)).mono ?_
 rintro e a2 ⟨tx2,lv2,nv2,rfl,htx,hd,hb⟩
 simp only[] at htx
 obtain⟨⟨pl2,cl2,hpl⟩,pn2,cn2,hpn⟩:=hd.forms
 obtain⟨nl2,hnl⟩: ∃n,d2.lines.length=n:=⟨_,rfl⟩
 obtain⟨nn2,hnn⟩: ∃n,d2.nodes.length=n:=⟨_,rfl⟩
 simp only[] at hpl hpn
 rw[hnl] at hpl
 rw[hnn] at hpn
 subst hpl hpn
 have HA2:Hid (Below w.heap.size w a2):=hid (by first | exact below_of_new HE1.out hb | exact below_of_new HE1.out.drew hb)
 have HN2:=hid hnn
 have HT2:=hid htx
 obtain⟨D2,hDe2⟩: ∃K,a2.heap.size=K:=⟨_,rfl⟩
 have b3:=below_alloc1 a2 (.cells #[.string tx2, .slice pl2 nl2 cl2, .slice pn2 nn2 cn2] 26)
 have x3:=heap_alloc_new a2 (.cells #[.string tx2, .slice pl2 nl2 cl2, .slice pn2 nn2 cn2] 26)
 obtain⟨e2,he2⟩: ∃W,a2.alloc (.cells #[.string tx2, .slice pl2 nl2 cl2, .slice pn2 nn2 cn2] 26)=W:=⟨_,rfl⟩
 rw[he2] at b3 x3
 rw[hDe2] at x3
 have HE2:=hid (below_of_new HA2.out b3)
 have HE12:Hid (Below e1.heap.size e1 e2):=hid (below_of_new (show Below e1.heap.size e1 a2 from by first | exact hb | exact below_of_new (Below.refl _ _).drew hb) b3)
 have HDX2:Hid (∀w',Below e2.heap.size e2 w'→w'.cell? ⟨D2,0,none⟩=some (.string tx2)∧w'.cell? ⟨D2,1,none⟩=some (.slice pl2 nl2 cl2)∧w'.cell? ⟨D2,2,none⟩=some (.slice pn2 nn2 cn2)):=hid (fun w' h=>by
  obtain⟨q0,q1,q2,_⟩:=box3f ((h.block D2 (cell_it x3)).trans x3)
  exact⟨q0,q1,q2⟩)
 have HDoc2:Hid (∃B,∀w',Below e2.heap.size e2 w'→YDocAt B d2 (.slice pl2 nl2 cl2) (.slice pn2 nn2 cn2) w'):=hid ⟨_,fun w' h=>(hd.keep b3).keep h⟩
 obtain⟨c0,c1,c2⟩:=HDX2.out e2 (Below.refl _ _)
 simp only[]
 clear b3 x3 hd hb hnl hnn htx CP2
 by_cases h0:er=0
 rotate_left
 ·have d0:(er !=0)=true:=by simpa using h0
  have d1:(er==er)=true:=by simp
  clear h0
  go_wp2_with fail
  go_ret
  exact⟨rfl,by first | exact HE2.out | exact HE2.out.drew⟩
 subst h0
 clear c0 c1 c2
 obtain⟨Q0,Q1,Q2,hv1,hv2⟩:=HA.out rfl
 have hk0:=Q0.l
 have hk2:=Q2.l
 have htx0:=HT0.out
 rw[if_pos rfl] at htx0
 subst htx0
 obtain⟨gn0,rfl⟩: ∃gn,pn0=some ⟨gn,0,none⟩:=by
  obtain⟨B,hB⟩:=HDoc0.out
  obtain⟨g,c,e⟩:=(hB _ (Below.refl _ _)).box (fun e=>by have:=Q0.t.lt;rw[e] at this;simp at this)
  injection e with e1
  exact⟨g,e1⟩
 have htx1:=HT1.out
 rw[if_pos rfl] at htx1
 subst htx1
 obtain⟨gn1,rfl⟩: ∃gn,pn1=some ⟨gn,0,none⟩:=by
  obtain⟨B,hB⟩:=HDoc1.out
  obtain⟨g,c,e⟩:=(hB _ (Below.refl _ _)).box (fun e=>by have:=Q1.t.lt;rw[e] at this;simp at this)
  injection e with e1
  exact⟨g,e1⟩
 have htx2:=HT2.out
 rw[if_pos rfl] at htx2
 subst htx2
 obtain⟨gn2,rfl⟩: ∃gn,pn2=some ⟨gn,0,none⟩:=by
  obtain⟨B,hB⟩:=HDoc2.out
  obtain⟨g,c,e⟩:=(hB _ (Below.refl _ _)).box (fun e=>by have:=Q2.t.lt;rw[e] at this;simp at this)
  injection e with e1
  exact⟨g,e1⟩
 obtain⟨T0,hT0⟩: ∃T,nodeYv s d0 32 0=T:=⟨_,rfl⟩
 obtain⟨T2,hT2⟩: ∃T,nodeYv F d2 32 0=T:=⟨_,rfl⟩
 rw[hT0] at hv1 hv2 hk0
 rw[hT2] at hv2 hk2
 have HV2:=hid hv2
 have HK:=hid (And.intro hk0 hk2)
 have HF0:Hid (Below e0.heap.size e0 e2):=hid (below_of_new HE01.out HE12.out)
 have HF1:Hid (Below e1.heap.size e1 e2):=HE12
 have HF2:Hid (Below e2.heap.size e2 e2):=hid (Below.refl _ _)
 obtain⟨tkA,htkA⟩: ∃a,T0.kind=a:=⟨_,rfl⟩
 obtain⟨ttA,httA⟩: ∃a,T0.text=a:=⟨_,rfl⟩
 obtain⟨nkA,hnkA⟩: ∃a,T0.keys.length=a:=⟨_,rfl⟩
 obtain⟨niA,hniA⟩: ∃a,T0.items.length=a:=⟨_,rfl⟩
 obtain⟨tkB,htkB⟩: ∃a,T2.kind=a:=⟨_,rfl⟩
 obtain⟨ttB,httB⟩: ∃a,T2.text=a:=⟨_,rfl⟩
 obtain⟨nkB,hnkB⟩: ∃a,T2.keys.length=a:=⟨_,rfl⟩
 obtain⟨niB,hniB⟩: ∃a,T2.items.length=a:=⟨_,rfl⟩
 have HTA:=hid (And.intro htkA httA)
 have HTB:=hid (And.intro htkB httB)
 have HC0:Hid (Below w.heap.size w e2):=hid (HE2.out)
 have CN0:Hid (∀w',Below e2.heap.size e2 w'→Calls Tryz.prog 14 #[.agg #[.string (bs s), .slice pl0 nl0 cl0, .slice (some ⟨gn0,0,none⟩) nn0 cn0], .int .i64 0] w' (NdE T0 true w')):=hid (fun w' h=>by
  obtain⟨B,hB⟩:=HDoc0.out
  have:=yNodeD_any s d0 Q0.b Q0.i B _ _ 0 _ w' Q0.t (hB w' (below_of_new HF0.out h)) ((HV.out.keep HC0.out).keep h)
  rw[hT0] at this
  exact this)
 obtain⟨c0,c1,c2⟩:=HDX0.out _ HF0.out
 go_wp2_with fail
 refine(CN0.out _ (by first | exact Below.refl _ _ | exact(Below.refl _ _).drew)).mono ?_
 rintro e y0 ⟨⟨kv,iv,rfl,hv⟩,hb⟩
 obtain⟨pk0,ck0,pi0,ci0,hkv,hiv⟩:=hv.toVD.form
 rw[hnkA] at hkv
 rw[hniA] at hiv
 subst hkv hiv
 unfold vv
 rw[htkA,httA]
 have HY0:Hid (Below e2.heap.size e2 y0):=hid (by first | exact hb | exact below_of_new (Below.refl _ _).drew hb)
 have HVd:=hid hv.toVD
 clear hv hb c0 c1 c2 CN0
 obtain⟨V0,hVe0⟩: ∃K,y0.heap.size=K:=⟨_,rfl⟩
 have b6:=below_alloc1 y0 (.cells #[.int .i64 tkA, .string (bs ttA), .slice pk0 nkA ck0, .slice pi0 niA ci0] 36)
 have x6:=heap_alloc_new y0 (.cells #[.int .i64 tkA, .string (bs ttA), .slice pk0 nkA ck0, .slice pi0 niA ci0] 36)
 obtain⟨z0,hz0⟩: ∃W,y0.alloc (.cells #[.int .i64 tkA, .string (bs ttA), .slice pk0 nkA ck0, .slice pi0 niA ci0] 36)=W:=⟨_,rfl⟩
 rw[hz0] at b6 x6
 rw[hVe0] at x6
 have HS0:Hid (Below e2.heap.size e2 z0):=hid (below_of_new HY0.out b6)
 have HVD0:Hid (∀w',Below z0.heap.size z0 w'→VD w' T0.depth T0 (.slice pk0 nkA ck0) (.slice pi0 niA ci0)):=hid (fun w' h=>(HVd.out.keep b6).keep h)
 have HVX0:Hid (∀w',Below z0.heap.size z0 w'→w'.cell? ⟨V0,0,none⟩=some (.int .i64 tkA)∧w'.cell? ⟨V0,1,none⟩=some (.string (bs ttA))∧w'.cell? ⟨V0,2,none⟩=some (.slice pk0 nkA ck0)∧w'.cell? ⟨V0,3,none⟩=some (.slice pi0 niA ci0)):=hid (fun w' h=>by
  obtain⟨q0,q1,q2,q3,_⟩:=box4 ((h.block V0 (cell_it x6)).trans x6)
  exact⟨q0,q1,q2,q3⟩)
 clear b6 x6 HVd
 have HF0:Hid (Below e0.heap.size e0 z0):=hid (below_of_new HF0.out HS0.out)
 have HF1:Hid (Below e1.heap.size e1 z0):=hid (below_of_new HF1.out HS0.out)
 have HF2:Hid (Below e2.heap.size e2 z0):=hid (below_of_new HF2.out HS0.out)
 have HC1:Hid (Below w.heap.size w z0):=hid (below_of_new HC0.out HS0.out)
 have CN1:Hid (∀w',Below z0.heap.size z0 w'→Calls Tryz.prog 14 #[.agg #[.string (bs M), .slice pl1 nl1 cl1, .slice (some ⟨gn1,0,none⟩) nn1 cn1], .int .i64 0] w' (NdE T0 true w')):=hid (fun w' h=>by
  obtain⟨B,hB⟩:=HDoc1.out
  have:=yNodeD_any M d1 Q1.b Q1.i B _ _ 0 _ w' Q1.t (hB w' (below_of_new HF1.out h)) ((HV.out.keep HC1.out).keep h)
  rw[hv1] at this
  exact this)
 obtain⟨c0,c1,c2⟩:=HDX1.out _ HF1.out
 go_wp2_with fail
 refine(CN1.out _ (by first | exact Below.refl _ _ | exact(Below.refl _ _).drew)).mono ?_
 rintro e y1 ⟨⟨kv,iv,rfl,hv⟩,hb⟩
 obtain⟨pk1,ck1,pi1,ci1,hkv,hiv⟩:=hv.toVD.form
 rw[hnkA] at hkv
 rw[hniA] at hiv
 subst hkv hiv
 unfold vv
 rw[htkA,httA]
 have HY1:Hid (Below z0.heap.size z0 y1):=hid (by first | exact hb | exact below_of_new (Below.refl _ _).drew hb)
 have HVd:=hid hv.toVD
 clear hv hb c0 c1 c2 CN1
 obtain⟨V1,hVe1⟩: ∃K,y1.heap.size=K:=⟨_,rfl⟩
 have b6:=below_alloc1 y1 (.cells #[.int .i64 tkA, .string (bs ttA), .slice pk1 nkA ck1, .slice pi1 niA ci1] 36)
 have x6:=heap_alloc_new y1 (.cells #[.int .i64 tkA, .string (bs ttA), .slice pk1 nkA ck1, .slice pi1 niA ci1] 36)
 obtain⟨z1,hz1⟩: ∃W,y1.alloc (.cells #[.int .i64 tkA, .string (bs ttA), .slice pk1 nkA ck1, .slice pi1 niA ci1] 36)=W:=⟨_,rfl⟩
 rw[hz1] at b6 x6
 rw[hVe1] at x6
 have HS1:Hid (Below z0.heap.size z0 z1):=hid (below_of_new HY1.out b6)
 have HVD1:Hid (∀w',Below z1.heap.size z1 w'→VD w' T0.depth T0 (.slice pk1 nkA ck1) (.slice pi1 niA ci1)):=hid (fun w' h=>(HVd.out.keep b6).keep h)
 have HVX1:Hid (∀w',Below z1.heap.size z1 w'→w'.cell? ⟨V1,0,none⟩=some (.int .i64 tkA)∧w'.cell? ⟨V1,1,none⟩=some (.string (bs ttA))∧w'.cell? ⟨V1,2,none⟩=some (.slice pk1 nkA ck1)∧w'.cell? ⟨V1,3,none⟩=some (.slice pi1 niA ci1)):=hid (fun w' h=>by
  obtain⟨q0,q1,q2,q3,_⟩:=box4 ((h.block V1 (cell_it x6)).trans x6)
  exact⟨q0,q1,q2,q3⟩)
 clear b6 x6 HVd
 have HF0:Hid (Below e0.heap.size e0 z1):=hid (below_of_new HF0.out HS1.out)
 have HF1:Hid (Below e1.heap.size e1 z1):=hid (below_of_new HF1.out HS1.out)
 have HF2:Hid (Below e2.heap.size e2 z1):=hid (below_of_new HF2.out HS1.out)
 have HC2:Hid (Below w.heap.size w z1):=hid (below_of_new HC1.out HS1.out)
 have CN2:Hid (∀w',Below z1.heap.size z1 w'→Calls Tryz.prog 14 #[.agg #[.string (bs F), .slice pl2 nl2 cl2, .slice (some ⟨gn2,0,none⟩) nn2 cn2], .int .i64 0] w' (NdE T2 true w')):=hid (fun w' h=>by
  obtain⟨B,hB⟩:=HDoc2.out
  have:=yNodeD_any F d2 Q2.b Q2.i B _ _ 0 _ w' Q2.t (hB w' (below_of_new HF2.out h)) ((HV.out.keep HC2.out).keep h)
  rw[hT2] at this
  exact this)
 obtain⟨c0,c1,c2⟩:=HDX2.out _ HF2.out
 go_wp2_with fail
 refine(CN2.out _ (by first | exact Below.refl _ _ | exact(Below.refl _ _).drew)).mono ?_
 rintro e y2 ⟨⟨kv,iv,rfl,hv⟩,hb⟩
 obtain⟨pk2,ck2,pi2,ci2,hkv,hiv⟩:=hv.toVD.form
 rw[hnkB] at hkv
 rw[hniB] at hiv
 subst hkv hiv
 unfold vv
 rw[htkB,httB]
 have HY2:Hid (Below z1.heap.size z1 y2):=hid (by first | exact hb | exact below_of_new (Below.refl _ _).drew hb)
 have HVd:=hid hv.toVD
 clear hv hb c0 c1 c2 CN2
 obtain⟨V2,hVe2⟩: ∃K,y2.heap.size=K:=⟨_,rfl⟩
 have b6:=below_alloc1 y2 (.cells #[.int .i64 tkB, .string (bs ttB), .slice pk2 nkB ck2, .slice pi2 niB ci2] 36)
 have x6:=heap_alloc_new y2 (.cells #[.int .i64 tkB, .string (bs ttB), .slice pk2 nkB ck2, .slice pi2 niB ci2] 36)
 obtain⟨z2,hz2⟩: ∃W,y2.alloc (.cells #[.int .i64 tkB, .string (bs ttB), .slice pk2 nkB ck2, .slice pi2 niB ci2] 36)=W:=⟨_,rfl⟩
 rw[hz2] at b6 x6
 rw[hVe2] at x6
 have HS2:Hid (Below z1.heap.size z1 z2):=hid (below_of_new HY2.out b6)
 have HVD2:Hid (∀w',Below z2.heap.size z2 w'→VD w' T2.depth T2 (.slice pk2 nkB ck2) (.slice pi2 niB ci2)):=hid (fun w' h=>(HVd.out.keep b6).keep h)
 have HVX2:Hid (∀w',Below z2.heap.size z2 w'→w'.cell? ⟨V2,0,none⟩=some (.int .i64 tkB)∧w'.cell? ⟨V2,1,none⟩=some (.string (bs ttB))∧w'.cell? ⟨V2,2,none⟩=some (.slice pk2 nkB ck2)∧w'.cell? ⟨V2,3,none⟩=some (.slice pi2 niB ci2)):=hid (fun w' h=>by
  obtain⟨q0,q1,q2,q3,_⟩:=box4 ((h.block V2 (cell_it x6)).trans x6)
  exact⟨q0,q1,q2,q3⟩)
 clear b6 x6 HVd
 have HF0:Hid (Below e0.heap.size e0 z2):=hid (below_of_new HF0.out HS2.out)
 have HF1:Hid (Below e1.heap.size e1 z2):=hid (below_of_new HF1.out HS2.out)
 have HF2:Hid (Below e2.heap.size e2 z2):=hid (below_of_new HF2.out HS2.out)
 have HC3:Hid (Below w.heap.size w z2):=hid (below_of_new HC2.out HS2.out)
 have HS12:Hid (Below z1.heap.size z1 z2):=HS2
 have HS02:Hid (Below z0.heap.size z0 z2):=hid (below_of_new HS1.out HS2.out)
 have CE1:Hid (∀w',Below z2.heap.size z2 w'→Calls Tryz.prog 16 #[.agg #[.int .i64 tkA, .string (bs ttA), .slice pk0 nkA ck0, .slice pi0 niA ci0], .agg #[.int .i64 tkA, .string (bs ttA), .slice pk1 nkA ck1, .slice pi1 niA ci1]] w' fun e w2=>e= .returned (.bool true)∧Below w'.heap.size w' w2):=hid (fun w' h=>by
  have:=requalB_any T0.depth T0 T0 _ _ _ _ w' (HVD0.out w' (below_of_new HS02.out h)) (HVD1.out w' (below_of_new HS12.out h)) (HK.out.1 _) (HK.out.1 _)
  unfold vv at this
  rw[HTA.out.1,HTA.out.2] at this
  exact Calls.mono this (fun e w2 h=>by
   obtain⟨⟨b,hb,hbt⟩,h2⟩:=h
   exact⟨by rw[hb,hbt rfl],h2⟩))
 have CE2:Hid (∀w',Below z2.heap.size z2 w'→Calls Tryz.prog 16 #[.agg #[.int .i64 tkA, .string (bs ttA), .slice pk0 nkA ck0, .slice pi0 niA ci0], .agg #[.int .i64 tkB, .string (bs ttB), .slice pk2 nkB ck2, .slice pi2 niB ci2]] w' fun e w2=>(∃b:Bool,e= .returned (.bool b)∧(litB d0=false→b=true))∧Below w'.heap.size w' w2):=hid (fun w' h=>by
  have h0:=HVD0.out w' (below_of_new HS02.out h)
  have h2:=HVD2.out w' h
  have:=requalB_any (T0.depth+T2.depth) T0 T2 _ _ _ _ w' (h0.more _) (by rw[Nat.add_comm];exact h2.more _) (HK.out.1 _) (HK.out.2 _)
  unfold vv at this
  rw[HTA.out.1,HTA.out.2,HTB.out.1,HTB.out.2] at this
  exact Calls.mono this (fun e w2 h=>by
   obtain⟨⟨b,hb,hbt⟩,h2⟩:=h
   exact⟨⟨b,hb,fun hl=>hbt (HV2.out hl)⟩,h2⟩))
 have CL:Hid (∀w',Below z2.heap.size z2 w'→Calls Tryz.prog 20 #[.agg #[.string (bs s), .slice pl0 nl0 cl0, .slice (some ⟨gn0,0,none⟩) nn0 cn0]] w' fun e w2=>e= .returned (.bool (litB d0))∧Below w'.heap.size w' w2):=hid (fun w' h=>by
  obtain⟨B,hB⟩:=HDoc0.out
  exact literal_any B d0 (bs s) _ gn0 nn0 cn0 w' (hB w' (below_of_new HF0.out h)) HN0.out (by have:=HN0.out;have:=Q0.c;omega))
 obtain⟨u0,u1,u2,u3⟩:=HVX0.out z2 HS02.out
 obtain⟨v0,v1,v2,v3⟩:=HVX1.out z2 HS12.out
 go_wp2_with fail
 refine(CE1.out _ (by first | exact Below.refl _ _ | exact(Below.refl _ _).drew)).mono ?_
 rintro e r1 ⟨rfl,hb⟩
 have HR1:Hid (Below z2.heap.size z2 r1):=hid (by first | exact hb | exact below_of_new (Below.refl _ _).drew hb)
 clear hb u0 u1 u2 u3 v0 v1 v2 v3
 obtain⟨u0,u1,u2,u3⟩:=HVX0.out r1 (below_of_new HS02.out HR1.out)
 obtain⟨v0,v1,v2,v3⟩:=HVX2.out r1 HR1.out
 go_wp2_with fail
 refine(CE2.out _ (by first | exact HR1.out | exact HR1.out.drew)).mono ?_
 rintro e r2 ⟨⟨b,rfl,hbl⟩,hb⟩
 have HR2:Hid (Below z2.heap.size z2 r2):=hid (by first | exact below_of_new HR1.out hb | exact below_of_new HR1.out.drew hb)
 have HBL:=hid hbl
 clear hb hbl u0 u1 u2 u3 v0 v1 v2 v3
 have HX:=hid (below_of_new HC3.out HR2.out)
 cases b with
 | true=>
  go_wp2_with fail
  go_ret
  exact⟨rfl,by first | exact HX.out | exact HX.out.drew⟩
 | false=>
  have hlt:litB d0=true:=by
   cases hq:litB d0 with
   | true=>rfl
   | false=>have:=HBL.out hq;cases this
  rw[hlt] at CL
  obtain⟨c0,c1,c2⟩:=HDX0.out r2 (below_of_new HF0.out HR2.out)
  go_wp2_with fail
  refine(CL.out _ (by first | exact HR2.out | exact HR2.out.drew)).mono ?_
  rintro e r3 ⟨rfl,hb⟩
  have HX3:Hid (Below w.heap.size w r3):=hid (by first | exact below_of_new HX.out hb | exact below_of_new HX.out.drew hb)
  clear hb c0 c1 c2
  go_wp2_with fail
  go_ret
  exact⟨rfl,by first | exact HX3.out | exact HX3.out.drew⟩
end Go.Proofs.YtlibkhbachmcgaaGreatDoor
namespace Go.Proofs.YtlibkhbachmcgaaGreatDoor
open Go.Shelf Go.RowKit
noncomputable def laidWorld7 (os:Os):World:=
 let w0:=World.holding Tryz.prog os ⟨#[], #[],[]⟩
 let put (h:Array Obj) (g:Nat) (cs:Array Value):Array Obj:=h.modify g fun
  | .cells _ t frozen=> .cells cs t frozen
  | o=>o
 let h1:=put w0.heap 6 #[.int .u8 0, .int .u8 1, .int .u8 28, .int .u8 2, .int .u8 29, .int .u8 14, .int .u8 24, .int .u8 3, .int .u8 30, .int .u8 22, .int .u8 20, .int .u8 15, .int .u8 25, .int .u8 17, .int .u8 4, .int .u8 8, .int .u8 31, .int .u8 27, .int .u8 13, .int .u8 23, .int .u8 21, .int .u8 19, .int .u8 16, .int .u8 7, .int .u8 26, .int .u8 12, .int .u8 18, .int .u8 6, .int .u8 11, .int .u8 5, .int .u8 10, .int .u8 9]
 let h2:=put h1 7 #[.int .u8 0, .int .u8 1, .int .u8 56, .int .u8 2, .int .u8 57, .int .u8 49, .int .u8 28, .int .u8 3, .int .u8 61, .int .u8 58, .int .u8 42, .int .u8 50, .int .u8 38, .int .u8 29, .int .u8 17, .int .u8 4, .int .u8 62, .int .u8 47, .int .u8 59, .int .u8 36, .int .u8 45, .int .u8 43, .int .u8 51, .int .u8 22, .int .u8 53, .int .u8 39, .int .u8 33, .int .u8 30, .int .u8 24, .int .u8 18, .int .u8 12, .int .u8 5, .int .u8 63, .int .u8 55, .int .u8 48, .int .u8 27, .int .u8 60, .int .u8 41, .int .u8 37, .int .u8 16, .int .u8 46, .int .u8 35, .int .u8 44, .int .u8 21, .int .u8 52, .int .u8 32, .int .u8 23, .int .u8 11, .int .u8 54, .int .u8 26, .int .u8 40, .int .u8 15, .int .u8 34, .int .u8 20, .int .u8 31, .int .u8 10, .int .u8 25, .int .u8 14, .int .u8 19, .int .u8 9, .int .u8 13, .int .u8 8, .int .u8 7, .int .u8 6]
 let h3:=put h2 3 #[.int .u64 1, .int .u64 10, .int .u64 100, .int .u64 1000, .int .u64 10000, .int .u64 100000, .int .u64 1000000, .int .u64 10000000, .int .u64 100000000, .int .u64 1000000000, .int .u64 10000000000, .int .u64 100000000000, .int .u64 1000000000000, .int .u64 10000000000000, .int .u64 100000000000000, .int .u64 1000000000000000, .int .u64 10000000000000000, .int .u64 100000000000000000, .int .u64 1000000000000000000, .int .u64 10000000000000000000]
 let h4:=put h3 1 #[.int .u8 128, .int .u8 191, .int .u8 160, .int .u8 191, .int .u8 128, .int .u8 159, .int .u8 144, .int .u8 191, .int .u8 128, .int .u8 143, .int .u8 0, .int .u8 0, .int .u8 0, .int .u8 0, .int .u8 0, .int .u8 0, .int .u8 0, .int .u8 0, .int .u8 0, .int .u8 0, .int .u8 0, .int .u8 0, .int .u8 0, .int .u8 0, .int .u8 0, .int .u8 0, .int .u8 0, .int .u8 0, .int .u8 0, .int .u8 0, .int .u8 0, .int .u8 0]
 let n5:=h4.size
 let a5:=h4.push (.cells #[.string ⟨#[118,97,108,117,101,32,111,117,116,32,111,102,32,114,97,110,103,101]⟩] 268 (0,0))
 let h5:=put a5 5 #[.iface 266 (.pointer (some ⟨n5,0,none⟩))]
 let n6:=h5.size
 let a6:=h5.push (.cells #[.string ⟨#[105,110,118,97,108,105,100,32,115,121,110,116,97,120]⟩] 268 (0,0))
 let h6:=put a6 4 #[.iface 266 (.pointer (some ⟨n6,0,none⟩))]
 let h7:=put h6 0 (Lib.firstTab.map fun z=>Value.int .u8 z).toArray
 { w0 with heap:=h7 }
def laidL7:List (String×DataW Unit):= [("math/bits.deBruijn32tab",Rows.laid_math_bits_deBruijn32tab),("math/bits.deBruijn64tab",Rows.laid_math_bits_deBruijn64tab),("internal/strconv.uint64pow10",Rows.laid_internal_strconv_uint64pow10),("unicode/utf8.acceptRanges",Rows.laid_unicode_utf8_acceptRanges),("strconv.ErrRange",Rows.laid_strconv_ErrRange),("strconv.ErrSyntax",Rows.laid_strconv_ErrSyntax),("unicode/utf8.first",Rows.laid_unicode_utf8_first)]
theorem laid_met7 (os:Os) (args:Array Value):laidMet Tryz.prog laidL7 ((laidWorld7 os).forCall (fun _ _=>0) ⟨#[],args,[]⟩).memory:=
 (LaidIn.of_run (l:=laidL7) (List.range 64) 8 (by kernel_rfl) (by kernel_rfl) (by kernel_rfl) (by kernel_rfl)).met
theorem ptab_of7 {W:World} (hL:laidMet Tryz.prog laidL7 W):PTab W:=by
 obtain⟨g,t,cs,fuel,p,hg,hty,hvar,hd⟩:=Lib.laidMet.reads hL (.tail _ (.tail _ (.head _)))
 obtain rfl:=Option.some.inj ((show Tryz.prog.globalNamed "internal/strconv.uint64pow10" =some 3 by kernel_rfl).symm.trans hg)
 obtain rfl:=Option.some.inj ((show (Tryz.prog.globals[3]?).map (·.type)=some 246 by kernel_rfl).symm.trans hty)
 rw[show (Rows.laid_internal_strconv_uint64pow10:DataW Unit)=Lib.tabData .u64 Lib.pow10Tab by kernel_rfl] at hd
 have h:=Lib.cells_of_tab Tryz.underlying246 Tryz.underlying196 (by kernel_rfl) (by kernel_rfl) hd
 show World.var? Tryz.prog W _=_
 rw[hvar,←h]
theorem iface_cells {H:Type}{enc:TypeId×Value→H}{P:Program}{w:World}{base:Nat}{sp:Nat→Bool}{held:Bool}{fuel:Nat}{t:TypeId}{ms:Array (String×TypeId)}{cs:List Value}{nm:String}{d:DataW H}{p:List MemPlace}
  (ht:P.underlying t=some (.interface ms)) (h:DataW.trod enc P w base sp held fuel t cs=some (.iface nm d,p)): ∃u v,cs= [.iface u v]:=by
 cases fuel with
 | zero=>simp[DataW.trod] at h
 | succ n=>
  unfold DataW.trod at h
  simp only[ht] at h
  rcases cs with _ | ⟨c,_ | ⟨c2,l⟩⟩
  ·simp at h
  ·cases c<;>simp at h
   exact⟨_,_,rfl⟩
  ·cases c<;>simp at h
theorem svar_of7 {W:World} (hL:laidMet Tryz.prog laidL7 W):SVar W:=by
 obtain⟨g,t,cs,fuel,p,hg,hty,hvar,hd⟩:=Lib.laidMet.reads hL (.tail _ (.tail _ (.tail _ (.tail _ (.tail _ (.head _))))))
 obtain rfl:=Option.some.inj ((show Tryz.prog.globalNamed "strconv.ErrSyntax" =some 4 by kernel_rfl).symm.trans hg)
 obtain rfl:=Option.some.inj ((show (Tryz.prog.globals[4]?).map (·.type)=some 109 by kernel_rfl).symm.trans hty)
 obtain⟨u,v,hcs⟩:=iface_cells Tryz.underlying109 hd
 refine⟨u,v,?_⟩
 rw[hvar,←hcs]
theorem dtab_of7 {W:World} (hL:laidMet Tryz.prog laidL7 W):DTab W:=by
 obtain⟨g,t,cs,fuel,p,hg,hty,hvar,hd⟩:=Lib.laidMet.reads hL (.tail _ (.head _))
 obtain rfl:=Option.some.inj ((show Tryz.prog.globalNamed "math/bits.deBruijn64tab" =some 7 by kernel_rfl).symm.trans hg)
 obtain rfl:=Option.some.inj ((show (Tryz.prog.globals[7]?).map (·.type)=some 270 by kernel_rfl).symm.trans hty)
 rw[show (Rows.laid_math_bits_deBruijn64tab:DataW Unit)=Lib.tabData .u8 (Lib.deBruijn64tab.map (fun n:Nat=>(n:Int))) by kernel_rfl] at hd
 have h:=Lib.cells_of_tab Tryz.underlying270 Tryz.underlying5 (by kernel_rfl) (by kernel_rfl) hd
 unfold DTab
 rw[World.var?_cell (P:=Tryz.prog) (show Tryz.prog.globalNamed "math/bits.deBruijn64tab" =some 7 by kernel_rfl) hvar 15,←Array.getElem?_toList,h]
 rfl
theorem tabs_of7 {W:World} (hL:laidMet Tryz.prog laidL7 W):Tabs W:=by
 have h1:=Lib.laidMet.reads hL (.tail _ (.tail _ (.tail _ (.head _))))
 have h2:=Lib.laidMet.reads hL (.tail _ (.tail _ (.tail _ (.tail _ (.tail _ (.tail _ (.head _)))))))
 rw[show Rows.laid_unicode_utf8_first=Lib.firstData from Pinned.utf8First_eq] at h2
 rw[show (Rows.laid_unicode_utf8_acceptRanges:DataW Unit)=Lib.acceptData by kernel_rfl] at h1
 exact utf8Tabs_of_readsT (U8Types.of196 Tryz.laysValid) ⟨by kernel_rfl,by kernel_rfl,by kernel_rfl,by kernel_rfl,by kernel_rfl,by kernel_rfl,by kernel_rfl⟩ h2 h1
theorem mvar_of {W:World} (h:W.ShapedOpen Tryz.prog):MVar W:=
 cell_of_shapedOpen_int (P:=Tryz.prog) (g:=2) (t:=3) (zero:= #[.int .i64 0]) h (of_decide_eq_true (by kernel_rfl)) (by kernel_rfl) rfl (by kernel_rfl) (by kernel_rfl) Tryz.underlying3
end Go.Proofs.YtlibkhbachmcgaaGreatDoor
namespace Go.Proofs.YtlibkhbachmcgaaGreatDoor
set_option linter.unusedSimpArgs false
set_option linter.unusedVariables false
set_option linter.constructorNameAsVariable false
open Go.RowKit Go.Joins Go.ChangeShapes Go.WideShapes
section
variable {H:Type}{enc:TypeId×Value→H}{w:World}{base:Nat}{sp:Nat→Bool}{held:Bool}
instance:Inhabited (VT×Value×Value):=⟨(.mk 0 [] [] [], .nilFunc, .nilFunc)⟩
theorem int_bd {e:Int} (h:(Lit.int .i64 e).wf=true): -9223372036854775808≤e∧e≤9223372036854775807:=by
 simp only[Lit.wf,Bool.and_eq_true,decide_eq_true_eq] at h
 have h1:IntKind.i64.min= -9223372036854775808:=by decide
 have h2:IntKind.i64.max=9223372036854775807:=by decide
 omega
end
end Go.Proofs.YtlibkhbachmcgaaGreatDoor
