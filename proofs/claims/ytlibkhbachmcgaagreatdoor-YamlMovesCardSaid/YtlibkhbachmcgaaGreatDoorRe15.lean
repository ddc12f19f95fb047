import Derived.Test.YtlibkhbachmcgaaGreatDoorRe14
import Derived.Test.YtlibkhbachmcgaaGreatDoorRe13
import Derived.Test.YtlibkhbachmcgaaGreatDoorRe12
import Derived.Test.YtlibkhbachmcgaaGreatDoorRe1
import Derived.Lib.Builder
import Derived.Lib.AppendStr
import Derived.Lib.UnsafeStr
import Derived.Lib.FrozenHead
import Derived.Lib.FrozenHead2
import Derived.Lib.OthersKept
import Derived.Laws.Externs
import Derived.Shelf.RegionOpenPlain
import Derived.RegionTactic
import Derived.KernelRfl
import Derived.Test.YtlibkhbachmcgaaGreatDoorRe4
import Derived.Test.YtlibkhbachmcgaaGreatDoorRe6
set_option maxRecDepth 100000
set_option maxHeartbeats 4000000
namespace Go.Proofs.YtlibkhbachmcgaaGreatDoor
set_option linter.unusedSimpArgs false
set_option linter.unusedVariables false
open Go.RowKit
open Go.Lib hiding intOf
def zeroT:VT:= .mk 0 [] [] []
def strT (s:Stp):VT:= .mk 4 s [] []
def resT (s:Stp):VT:= .mk (resP s).1 (resP s).2 [] []
def readJ (s:Stp):VT×Int×Int:=if(parseJ s).2.2≠0 then(zeroT,(parseJ s).2.1,(parseJ s).2.2) else(nodeV s (parseJ s).1 32 0,(parseJ s).2.1,0)
def singleY (t:Stp):Stp×Int:=if(sqL t 0).2.2≠0∨(sqL t 0).2.1≠(t.length:Int) then([],2) else((sqL t 0).1,0)
def textY (t:Stp):Stp×Int:=if t.head?=some 39 then singleY t else((unqL t).1,(unqL t).2.2)
def readY (t:Stp):VT×Int:=match t with
 | []=>(resT [],0)
 | c::r=>if c=34∨c=39 then(if(textY (c::r)).2≠0 then(zeroT,(textY (c::r)).2) else(strT (textY (c::r)).1,0))
  else if c=91∨c=123 then((readJ (c::r)).1,(readJ (c::r)).2.2)
  else if bareB (c::r) then(resT (c::r),0) else(zeroT,2)
def keyRd (t:Stp):Stp×Int:=match t with
 | []=>([],2)
 | c::r=>if c=34∨c=39 then textY (c::r) else if bareB (c::r) then(c::r,0) else([],2)
theorem ysingle_any (t:Stp) (w:World) (hs:t.length≤1073741824) (hT:Tabs w):
  Calls Tryz.prog 157 #[.string (bs t)] w fun e w'=>e=QuotedE (singleY t)∧Below w.heap.size w w':=by
 have sl:=bs_size t
 have C1:=hid (single_any t 0 w hs hT)
 unfold ReadE at C1
 unfold QuotedE singleY
 obtain⟨⟨S,k,er⟩,hS⟩: ∃S,sqL t 0=S:=⟨_,rfl⟩
 rw[hS] at C1
 rw[hS]
 clear hS hT
 simp only[]
 by_cases he:er=0
 ·subst he
  by_cases hk:k=(t.length:Int)
  ·have dk:(k !=(t.length:Int))=false:=by simp[hk]
   rw[if_neg (by simp[hk])]
   go_enter Tryz.func157,Tryz.ntmps157
   go_wp2_with fail
   refine C1.out.mono ?_
   rintro e w1 ⟨rfl,hb1⟩
   have HB1:=hid hb1
   clear hb1
   go_wp2_with fail
   go_ret2
   exact⟨rfl,HB1.out⟩
  ·have dk:(k !=(t.length:Int))=true:=by simp[hk]
   rw[if_pos (.inr hk)]
   go_enter Tryz.func157,Tryz.ntmps157
   go_wp2_with fail
   refine C1.out.mono ?_
   rintro e w1 ⟨rfl,hb1⟩
   have HB1:=hid hb1
   clear hb1 hk
   go_wp2_with fail
   go_ret2
   exact⟨rfl,HB1.out⟩
 ·have de:(er !=0)=true:=by simp[he]
  rw[if_pos (.inl he)]
  go_enter Tryz.func157,Tryz.ntmps157
  go_wp2_with fail
  refine C1.out.mono ?_
  rintro e w1 ⟨rfl,hb1⟩
  have HB1:=hid hb1
  clear hb1 he
  go_wp2_with fail
  go_ret2
  exact⟨rfl,HB1.out⟩
theorem ytext_any (t:Stp) (c:UInt8) (r:Stp) (ht:c::r=t) (w:World) (hs:t.length≤1073741824) (hV:AVar w):
  Calls Tryz.prog 113 #[.string (bs t)] w fun e w'=>e=QuotedE (textY t)∧Below w.heap.size w w':=by
 have sl:=bs_size t
 have hlen:0<t.length:=by rw[←ht];simp
 have hc0:(bs t)[0]'(by rw[bs_size];exact hlen)=c:=by
  subst ht
  rfl
 have hhd:t.head?=some c:=by rw[←ht];rfl
 have C1:=hid (ysingle_any t w hs hV.tabs)
 have C2:=hid (unquote_any t w hs hV.2 hV.tabs)
 unfold ReadE at C2
 unfold textY
 rw[hhd]
 clear hV hhd ht
 by_cases h39:c=39
 ·have d39:((c.toNat:Int)==39)=true:=by rw[h39];rfl
  rw[if_pos (by rw[h39])]
  unfold QuotedE at C1 ⊢
  obtain⟨⟨S,er⟩,hS⟩: ∃S,singleY t=S:=⟨_,rfl⟩
  rw[hS] at C1
  rw[hS]
  clear hS h39
  go_enter Tryz.func113,Tryz.ntmps113
  go_wp2_with fail
  refine C1.out.mono ?_
  rintro e w1 ⟨rfl,hb1⟩
  have HB1:=hid hb1
  clear hb1
  go_wp2_with fail
  go_ret2
  exact⟨rfl,HB1.out⟩
 ·have d39:((c.toNat:Int)==39)=false:=beq_eq_false_iff_ne.2 (fun e=>h39 (UInt8.toNat_inj.1 (by exact_mod_cast e)))
  rw[if_neg (by simpa using h39)]
  unfold QuotedE
  obtain⟨⟨S,k,er⟩,hS⟩: ∃S,unqL t=S:=⟨_,rfl⟩
  rw[hS] at C2
  rw[hS]
  clear hS h39
  go_enter Tryz.func113,Tryz.ntmps113
  go_wp2_with fail
  refine C2.out.mono ?_
  rintro e w1 ⟨rfl,hb1⟩
  have HB1:=hid hb1
  clear hb1
  go_wp2_with fail
  go_ret2
  exact⟨rfl,HB1.out⟩
theorem u8_eq (c d:UInt8):((c.toNat:Int)==(d.toNat:Int))=(c==d):=by
 by_cases h:c=d
 ·subst h;simp
 ·rw[beq_eq_false_iff_ne.2 h]
  exact beq_eq_false_iff_ne.2 (fun e=>h (UInt8.toNat_inj.1 (by exact_mod_cast e)))
theorem ykey_any (t:Stp) (w:World) (hs:t.length≤1073741824) (hV:AVar w):
  Calls Tryz.prog 64 #[.string (bs t)] w fun e w'=>e=QuotedE (keyRd t)∧Below w.heap.size w w':=by
 have sl:=bs_size t
 cases t with
 | nil=>
  have e0:((bs ([]:Stp)).toList== [])=true:=str_nil []
  have e0b:(bs ([]:Stp)).toList.isEmpty=true:=str_nil2 []
  unfold keyRd QuotedE
  go_enter Tryz.func64,Tryz.ntmps64
  go_wp2_with fail
  go_ret2
  exact⟨rfl,Below.refl _ _⟩
 | cons c r=>
  have C1:=hid (ytext_any (c::r) c r rfl w hs hV)
  have C2:=hid (ybare_any (c::r) w hs hV.1)
  have q34:=u8_eq c 34
  have q39:=u8_eq c 39
  unfold keyRd QuotedE at *
  simp only[]
  obtain⟨t,ht⟩: ∃t,c::r=t:=⟨_,rfl⟩
  have hlen:0<t.length:=by rw[←ht];simp
  have hc0:(bs t)[0]'(by rw[bs_size];exact hlen)=c:=by
   subst ht
   rfl
  have hne:t≠ []:=by rw[←ht];simp
  have e0:((bs t).toList== [])=false:=by rw[str_nil];cases t<;>simp at hne ⊢
  have e0b:(bs t).toList.isEmpty=false:=by rw[str_nil2];cases t<;>simp at hne ⊢
  rw[ht] at hs sl C1 C2 ⊢
  obtain⟨⟨S,er⟩,hS⟩: ∃S,textY t=S:=⟨_,rfl⟩
  rw[hS] at C1
  rw[hS]
  obtain⟨B,hB⟩: ∃B,bareB t=B:=⟨_,rfl⟩
  rw[hB] at C2
  rw[hB]
  clear hS ht hV hB hne
  by_cases h34:c=34
  ·have d34:((c.toNat:Int)==34)=true:=by rw[h34];rfl
   rw[if_pos (.inl h34)]
   clear h34 q34 q39
   go_enter Tryz.func64,Tryz.ntmps64
   go_wp2_with fail
   refine C1.out.mono ?_
   rintro e w1 ⟨rfl,hb1⟩
   have HB1:=hid hb1
   clear hb1
   go_wp2_with fail
   go_ret2
   exact⟨rfl,HB1.out⟩
  have d34:((c.toNat:Int)==34)=false:=beq_eq_false_iff_ne.2 (fun e=>h34 (UInt8.toNat_inj.1 (by exact_mod_cast e)))
  by_cases h39:c=39
  ·have d39:((c.toNat:Int)==39)=true:=by rw[h39];rfl
   rw[if_pos (.inr h39)]
   clear h34 h39 q34 q39
   go_enter Tryz.func64,Tryz.ntmps64
   go_wp2_with fail
   refine C1.out.mono ?_
   rintro e w1 ⟨rfl,hb1⟩
   have HB1:=hid hb1
   clear hb1
   go_wp2_with fail
   go_ret2
   exact⟨rfl,HB1.out⟩
  have d39:((c.toNat:Int)==39)=false:=beq_eq_false_iff_ne.2 (fun e=>h39 (UInt8.toNat_inj.1 (by exact_mod_cast e)))
  rw[if_neg (by simp[h34,h39])]
  clear h34 h39 q34 q39
  cases B with
  | true=>
   rw[if_pos rfl]
   go_enter Tryz.func64,Tryz.ntmps64
   go_wp2_with fail
   refine C2.out.mono ?_
   rintro e w1 ⟨rfl,hb1⟩
   have HB1:=hid hb1
   clear hb1
   go_wp2_with fail
   go_ret2
   exact⟨rfl,HB1.out⟩
  | false=>
   rw[if_neg (by simp)]
   go_enter Tryz.func64,Tryz.ntmps64
   go_wp2_with fail
   refine C2.out.mono ?_
   rintro e w1 ⟨rfl,hb1⟩
   have HB1:=hid hb1
   clear hb1
   go_wp2_with fail
   go_ret2
   exact⟨rfl,HB1.out⟩
def NewE3 (t:VT) (a er:Int) (w:World) (e:Ending) (w':World):Prop:=(∃kv iv,e= .returned (.tuple #[vv t kv iv, .int .i64 a, .int .i64 er])∧VDf w.heap.size w' t.depth t kv iv)∧Below w.heap.size w w'
def NewE2 (t:VT) (er:Int) (w:World) (e:Ending) (w':World):Prop:=(∃kv iv,e= .returned (.tuple #[vv t kv iv, .int .i64 er])∧VDf w.heap.size w' t.depth t kv iv)∧Below w.heap.size w w'
theorem leafV (B:Nat) (w:World) (k:Int) (s:Stp):VDf B w (VT.mk k s [] []).depth (VT.mk k s [] []) (.slice none 0 0) (.slice none 0 0):=by
 rw[VT.depth]
 exact⟨⟨none,0,rfl,Nat.le_refl _, .inl rfl⟩,none,0,rfl,Nat.le_refl _, .inl rfl⟩
theorem putNew {w W w':World}{R:Nat}{t:VT}{k0:Int}{t0:Stp}{a b kv iv:Value} (hb:Below w.heap.size w W) (hR:w.heap.size≤R) (hRW:R<W.heap.size) (hv:VDf W.heap.size w' t.depth t kv iv) (hb2:Below W.heap.size W w') (hc:W.heap[R]?=some (.cells #[.int .i64 k0, .string (bs t0),a,b] 36)):
  VDf w.heap.size (putV w' R t.kind t.text kv iv) t.depth t kv iv∧Below w.heap.size w (putV w' R t.kind t.text kv iv)∧(putV w' R t.kind t.text kv iv).heap[R]?=some (.cells #[.int .i64 t.kind, .string (bs t.text),kv,iv] 36):=
 ⟨hv.agree (fun q hq _=>⟨putV_other (by omega),Nat.le_trans hb.size hq⟩),below_putV (below_of_new hb hb2) hR,putV_cells ((hb2.block R hRW).trans hc)⟩
theorem jread_any (s:Stp) (w:World) (hs:s.length≤1073741824) (hV:AVar w):
  Calls Tryz.prog 114 #[.string (bs s)] w (NewE3 (readJ s).1 (readJ s).2.1 (readJ s).2.2 w):=by
 obtain⟨R,hR⟩: ∃R,w.heap.size=R:=⟨_,rfl⟩
 obtain⟨W1,hW1⟩: ∃W,w.alloc (.cells #[.int .i64 0, .string ⟨#[]⟩, .slice none 0 0, .slice none 0 0] 36)=W:=⟨_,rfl⟩
 have HB1:Hid (Below w.heap.size w W1):=hid (by rw[←hW1];exact below_alloc1 _ _)
 have HR1:Hid (W1.heap[R]?=some (.cells #[.int .i64 0, .string (bs []), .slice none 0 0, .slice none 0 0] 36)):=hid (by rw[←hW1,←hR];exact heap_alloc_new w _)
 have HRl:=hid (cell_it HR1.out)
 have HV:=hid (hV.keep HB1.out)
 have CP:=hid (parse_read s _ rfl W1 (by omega) HV.out.2 HV.out.tabs)
 have hbig:(parseJ s).2.2=0→(parseJ s).1.length≤65536:=fun _=>parse_few s
 unfold readJ
 obtain⟨⟨ns,at_,er⟩,hP⟩: ∃P,parseJ s=P:=⟨_,rfl⟩
 rw[hP] at CP hbig
 rw[hP]
 simp only[] at hbig ⊢
 have HP:=hid hP
 unfold ParseR at CP
 simp only[] at CP
 clear hV hP
 by_cases he:er=0
 ·subst he
  rw[if_neg (by simp)]
  simp only[]
  have HT:=hid (parse_tree HP.out)
  have hdt:docT s ns=s:=by
   have:=HT.out.lt
   cases ns with
   | nil=>simp at this
   | cons _ _=>rfl
  rw[hdt] at CP
  have hN:=hbig rfl
  have HN:=hid hN
  clear hbig hdt hN
  go_enter Tryz.func114,Tryz.ntmps114
  go_upto_region 1 with fail
  clear hW1
  go_wp2_with fail
  refine CP.out.mono ?_
  rintro e w1 ⟨p,c,rfl,hn1,hb1⟩
  have hb2:=below_alloc1 w1 (.cells #[.string (bs s), .slice p ns.length c] 146)
  have hb3:=below_of_new hb1 hb2
  have HB3:=hid hb3
  have HND:=hid (jnode_any s ns p c HN.out hs 32 0 ns.length 1 _ HT.out (hid rfl) (Nat.le_refl _) (hn1.keep hb2) (HV.out.keep hb3))
  clear hn1 hb1 hb2 hb3 CP
  go_wp2_with fail
  refine HND.out.mono ?_
  rintro e w4 ⟨⟨kv,iv,rfl,hv4⟩,hb4⟩
  obtain⟨pk,ck,px,cx,rfl,rfl⟩:=hv4.form
  have HB4:=hid (below_of_new HB3.out hb4)
  have HV4:=hid (hv4.mono (ok':=fun q=>W1.heap.size≤q) (fun q hq _=>Nat.le_trans HB3.out.size hq))
  have HPN:=hid (putNew HB1.out (by rw[hR];exact Nat.le_refl _) HRl.out HV4.out HB4.out HR1.out)
  obtain⟨r0,r1,r2,r3,f0,f1,f2,f3⟩:=box4 ((HB4.out.block R HRl.out).trans HR1.out)
  unfold vv
  clear hv4 hb4 HND
  go_wp2_with fail
  obtain⟨WF,hWF⟩: ∃W,putV w4 R (nodeV s ns 32 0).kind (nodeV s ns 32 0).text (.slice pk (nodeV s ns 32 0).keys.length ck) (.slice px (nodeV s ns 32 0).items.length cx)=W:=⟨_,rfl⟩
  rw[hWF] at HPN
  have hWF':(((w4.setCell ⟨R,0,none⟩ (.int .i64 (nodeV s ns 32 0).kind)).setCell ⟨R,1,none⟩ (.string (bs (nodeV s ns 32 0).text))).setCell ⟨R,2,none⟩ (.slice pk (nodeV s ns 32 0).keys.length ck)).setCell ⟨R,3,none⟩ (.slice px (nodeV s ns 32 0).items.length cx)=WF:=hWF
  rw[hWF']
  clear hWF hWF' r0 r1 r2 r3 f0 f1 f2 f3
  obtain⟨d0,d1,d2,d3,_⟩:=box4 HPN.out.2.2
  refine bodyPost_ret (v:= .tuple #[vv (nodeV s ns 32 0) (.slice pk (nodeV s ns 32 0).keys.length ck) (.slice px (nodeV s ns 32 0).items.length cx), .int .i64 at_, .int .i64 0]) ?_ rfl ⟨⟨_,_,rfl,HPN.out.1⟩,HPN.out.2.1⟩
  simp[results,Tryz.results114,go_sem,d0,d1,d2,d3,vv]
 ·rw[if_pos he]
  simp only[]
  have de:(er !=0)=true:=by simp[he]
  clear hbig HP
  go_enter Tryz.func114,Tryz.ntmps114
  go_upto_region 1 with fail
  clear hW1
  go_wp2_with fail
  refine CP.out.mono ?_
  rintro e w1 ⟨p,c,rfl,hn1,hb1⟩
  have HB1':=hid hb1
  obtain⟨w4,hw4⟩: ∃w4,w1.alloc (.cells #[.string (bs (docT s ns)), .slice p ns.length c] 146)=w4:=⟨_,rfl⟩
  have HB4:Hid (Below W1.heap.size W1 w4):=hid (below_of_new hb1 (by rw[←hw4];exact below_alloc1 _ _))
  have HPN:=hid (putNew (t:=zeroT) HB1.out (by rw[hR];exact Nat.le_refl _) HRl.out (leafV _ _ _ _) HB4.out HR1.out)
  obtain⟨r0,r1,r2,r3,f0,f1,f2,f3⟩:=box4 ((HB4.out.block R HRl.out).trans HR1.out)
  clear hn1 hb1 CP
  go_wp2_with fail
  obtain⟨WF,hWF⟩: ∃W,putV w4 R zeroT.kind zeroT.text (.slice none 0 0) (.slice none 0 0)=W:=⟨_,rfl⟩
  rw[hWF] at HPN
  have hWF':(((w4.setCell ⟨R,0,none⟩ (.int .i64 0)).setCell ⟨R,1,none⟩ (.string ⟨#[]⟩)).setCell ⟨R,2,none⟩ (.slice none 0 0)).setCell ⟨R,3,none⟩ (.slice none 0 0)=WF:=hWF
  rw[hWF']
  clear hWF hWF' r0 r1 r2 r3 f0 f1 f2 f3
  obtain⟨d0,d1,d2,d3,_⟩:=box4 HPN.out.2.2
  refine bodyPost_ret (v:= .tuple #[vv zeroT (.slice none 0 0) (.slice none 0 0), .int .i64 at_, .int .i64 er]) ?_ rfl ⟨⟨_,_,rfl,HPN.out.1⟩,HPN.out.2.1⟩
  simp[results,Tryz.results114,go_sem,d0,d1,d2,d3,vv]
theorem yread_any (t:Stp) (w:World) (hs:t.length≤1073741824) (hV:AVar w):
    Calls Tryz.prog 63 #[.string (bs t)] w (NewE2 (readY t).1 (readY t).2 w):=by
  have sl:=bs_size t
  obtain⟨R,hR⟩: ∃R,w.heap.size=R:=⟨_,rfl⟩
  obtain⟨W1,hW1⟩: ∃W,w.alloc (.cells #[.int .i64 0, .string ⟨#[]⟩, .slice none 0 0, .slice none 0 0] 36)=W:=⟨_,rfl⟩
  have HB1:Hid (Below w.heap.size w W1):=hid (by rw[←hW1];exact below_alloc1 _ _)
  have HR1:Hid (W1.heap[R]?=some (.cells #[.int .i64 0, .string (bs []), .slice none 0 0, .slice none 0 0] 36)):=hid (by rw[←hW1,←hR];exact heap_alloc_new w _)
  have HRl:=hid (cell_it HR1.out)
  have HRw:Hid (w.heap.size≤R):=hid (by rw[hR];exact Nat.le_refl _)
  have HV:=hid (hV.keep HB1.out)
  have CRes:Hid (∀(s:Stp) w',s.length≤1073741824→Below W1.heap.size W1 w'→Calls Tryz.prog 112 #[.string (bs s)] w' fun e w2=>e=ResE s∧Below w'.heap.size w' w2):=hid (fun s w' h hb=>yresolve_any s w' h (HV.out.keep hb).1)
  have COf:Hid (∀(s:Stp) w',Calls Tryz.prog 27 #[.string (bs s)] w' fun e w2=>e= .returned (.agg #[.int .i64 4, .string (bs s), .slice none 0 0, .slice none 0 0])∧Below w'.heap.size w' w2):=hid (fun s w'=>vof_any s w')
  unfold ResE at CRes
  cases t with
  | nil=>
    have e0:((bs ([]:Stp)).toList== [])=true:=str_nil []
    have e0b:(bs ([]:Stp)).toList.isEmpty=true:=str_nil2 []
    show Calls _ _ _ _ (NewE2 (resT []) 0 w)
    have CR:=hid (fun w' hb=>CRes.out [] w' (by decide) hb)
    obtain⟨⟨rk,rs⟩,hrs⟩: ∃Q,resP []=Q:=⟨_,rfl⟩
    have hrt:resT []= .mk rk rs [] []:=by unfold resT;rw[hrs]
    rw[hrs] at CR
    rw[hrt]
    clear hrs hrt CRes
    clear hV
    go_enter Tryz.func63,Tryz.ntmps63
    go_upto_region 1 with fail
    clear hW1 hR
    go_wp2_with fail
    refine(CR.out _ (Below.refl _ _)).mono ?_
    rintro e w2 ⟨rfl,hb2⟩
    have HB2:=hid hb2
    clear hb2
    have HPN:=hid (putNew (t:=VT.mk rk rs [] []) HB1.out HRw.out HRl.out (leafV _ _ _ _) HB2.out HR1.out)
    obtain⟨r0,r1,r2,r3,f0,f1,f2,f3⟩:=box4 ((HB2.out.block R HRl.out).trans HR1.out)
    go_wp2_with fail
    obtain⟨WF,hWF⟩: ∃W,putV w2 R rk rs (.slice none 0 0) (.slice none 0 0)=W:=⟨_,rfl⟩
    have hPN:VDf w.heap.size (putV w2 R rk rs (.slice none 0 0) (.slice none 0 0)) (VT.mk rk rs [] []).depth (VT.mk rk rs [] []) (.slice none 0 0) (.slice none 0 0)∧Below w.heap.size w (putV w2 R rk rs (.slice none 0 0) (.slice none 0 0))∧(putV w2 R rk rs (.slice none 0 0) (.slice none 0 0)).heap[R]?=some (.cells #[.int .i64 rk, .string (bs rs),(.slice none 0 0),(.slice none 0 0)] 36):=HPN.out
    rw[hWF] at hPN
    have HPN2:=hid hPN
    have hWF':(((w2.setCell ⟨R,0,none⟩ (.int .i64 rk)).setCell ⟨R,1,none⟩ (.string (bs rs))).setCell ⟨R,2,none⟩ (.slice none 0 0)).setCell ⟨R,3,none⟩ (.slice none 0 0)=WF:=hWF
    first
      | rw[hWF']
      | (have hWF2:(((w2.setCell ⟨R,0,none⟩ (.int .i64 rk)).setCell ⟨R,1,none⟩ (.string ⟨#[]⟩)).setCell ⟨R,2,none⟩ (.slice none 0 0)).setCell ⟨R,3,none⟩ (.slice none 0 0)=WF:=hWF
         rw[hWF2])
    clear hWF hWF' hPN r0 r1 r2 r3 f0 f1 f2 f3 HPN
    obtain⟨d0,d1,d2,d3,_⟩:=box4 HPN2.out.2.2
    refine bodyPost_ret (v:= .tuple #[.agg #[.int .i64 rk, .string (bs rs),(.slice none 0 0),(.slice none 0 0)], .int .i64 0]) ?_ rfl ⟨⟨_,_,rfl,HPN2.out.1⟩,HPN2.out.2.1⟩
    simp[results,Tryz.results63,go_sem,d0,d1,d2,d3]
  | cons c r=>
    have CT:=hid (fun w' (hb:Below W1.heap.size W1 w')=>ytext_any (c::r) c r rfl w' hs (HV.out.keep hb))
    have CB:=hid (fun w' (hb:Below W1.heap.size W1 w')=>ybare_any (c::r) w' hs (HV.out.keep hb).1)
    have CJ:=hid (fun w' (hb:Below W1.heap.size W1 w')=>jread_any (c::r) w' hs (HV.out.keep hb))
    unfold readY
    simp only[]
    obtain⟨t,ht⟩: ∃t,c::r=t:=⟨_,rfl⟩
    have hlen:0<t.length:=by rw[←ht];simp
    have hc0:(bs t)[0]'(by rw[bs_size];exact hlen)=c:=by
      subst ht
      rfl
    have hne:t≠ []:=by rw[←ht];simp
    have e0:((bs t).toList== [])=false:=by rw[str_nil];cases t<;>simp at hne ⊢
    have e0b:(bs t).toList.isEmpty=false:=by rw[str_nil2];cases t<;>simp at hne ⊢
    rw[ht] at hs sl CT CB CJ ⊢
    have q34:=u8_eq c 34
    have q39:=u8_eq c 39
    have q91:=u8_eq c 91
    have q123:=u8_eq c 123
    clear ht hne hV
    by_cases hq:c=34∨c=39
    · rw[if_pos hq]
      obtain⟨⟨S,er⟩,hS⟩: ∃S,textY t=S:=⟨_,rfl⟩
      unfold QuotedE at CT
      rw[hS] at CT
      rw[hS]
      simp only[]
      clear hS CB CJ q91 q123
      have hcc:((c.toNat:Int)==34)=true∨(((c.toNat:Int)==34)=false∧((c.toNat:Int)==39)=true):=by
        rcases hq with rfl | rfl
        · exact .inl rfl
        · exact .inr ⟨rfl,rfl⟩
      clear hq q34 q39
      by_cases he:er=0
      · subst he
        rw[if_neg (by simp)]
        have CO:=hid (COf.out S)
        rcases hcc with d34 | ⟨d34,d39⟩
        all_goals
          go_enter Tryz.func63,Tryz.ntmps63
          go_upto_region 1 with fail
          clear hW1 hR
          go_wp2_with fail
          refine(CT.out _ (Below.refl _ _)).mono ?_
          rintro e w2 ⟨rfl,hb2⟩
          have HB2:=hid hb2
          clear hb2
          go_wp2_with fail
          refine(CO.out _).mono ?_
          rintro e w3 ⟨rfl,hb3⟩
          have HB3:=hid (below_of_new HB2.out hb3)
          clear hb3
          have HPN:=hid (putNew (t:=strT S) HB1.out HRw.out HRl.out (leafV _ _ _ _) HB3.out HR1.out)
          obtain⟨r0,r1,r2,r3,f0,f1,f2,f3⟩:=box4 ((HB3.out.block R HRl.out).trans HR1.out)
          go_wp2_with fail
          obtain⟨WF,hWF⟩: ∃W,putV w3 R 4 S (.slice none 0 0) (.slice none 0 0)=W:=⟨_,rfl⟩
          have hPN:VDf w.heap.size (putV w3 R 4 S (.slice none 0 0) (.slice none 0 0)) (strT S).depth (strT S) (.slice none 0 0) (.slice none 0 0)∧Below w.heap.size w (putV w3 R 4 S (.slice none 0 0) (.slice none 0 0))∧(putV w3 R 4 S (.slice none 0 0) (.slice none 0 0)).heap[R]?=some (.cells #[.int .i64 4, .string (bs S),(.slice none 0 0),(.slice none 0 0)] 36):=HPN.out
          rw[hWF] at hPN
          have HPN2:=hid hPN
          have hWF':(((w3.setCell ⟨R,0,none⟩ (.int .i64 4)).setCell ⟨R,1,none⟩ (.string (bs S))).setCell ⟨R,2,none⟩ (.slice none 0 0)).setCell ⟨R,3,none⟩ (.slice none 0 0)=WF:=hWF
          first
            | rw[hWF']
            | (have hWF2:(((w3.setCell ⟨R,0,none⟩ (.int .i64 4)).setCell ⟨R,1,none⟩ (.string ⟨#[]⟩)).setCell ⟨R,2,none⟩ (.slice none 0 0)).setCell ⟨R,3,none⟩ (.slice none 0 0)=WF:=hWF
               rw[hWF2])
          clear hWF hWF' hPN r0 r1 r2 r3 f0 f1 f2 f3 HPN
          obtain⟨d0,d1,d2,d3,_⟩:=box4 HPN2.out.2.2
          refine bodyPost_ret (v:= .tuple #[.agg #[.int .i64 4, .string (bs S),(.slice none 0 0),(.slice none 0 0)], .int .i64 0]) ?_ rfl ⟨⟨_,_,rfl,HPN2.out.1⟩,HPN2.out.2.1⟩
          simp[results,Tryz.results63,go_sem,d0,d1,d2,d3]
      · have de:(er !=0)=true:=by simp[he]
        rw[if_pos he]
        rcases hcc with d34 | ⟨d34,d39⟩
        all_goals
          go_enter Tryz.func63,Tryz.ntmps63
          go_upto_region 1 with fail
          clear hW1 hR
          go_wp2_with fail
          refine(CT.out _ (Below.refl _ _)).mono ?_
          rintro e w2 ⟨rfl,hb2⟩
          have HB2:=hid hb2
          clear hb2
          have HPN:=hid (putNew (t:=zeroT) HB1.out HRw.out HRl.out (leafV _ _ _ _) HB2.out HR1.out)
          obtain⟨r0,r1,r2,r3,f0,f1,f2,f3⟩:=box4 ((HB2.out.block R HRl.out).trans HR1.out)
          go_wp2_with fail
          obtain⟨WF,hWF⟩: ∃W,putV w2 R 0 ([]:Stp) (.slice none 0 0) (.slice none 0 0)=W:=⟨_,rfl⟩
          have hPN:VDf w.heap.size (putV w2 R 0 ([]:Stp) (.slice none 0 0) (.slice none 0 0)) (zeroT).depth (zeroT) (.slice none 0 0) (.slice none 0 0)∧Below w.heap.size w (putV w2 R 0 ([]:Stp) (.slice none 0 0) (.slice none 0 0))∧(putV w2 R 0 ([]:Stp) (.slice none 0 0) (.slice none 0 0)).heap[R]?=some (.cells #[.int .i64 0, .string (bs ([]:Stp)),(.slice none 0 0),(.slice none 0 0)] 36):=HPN.out
          rw[hWF] at hPN
          have HPN2:=hid hPN
          have hWF':(((w2.setCell ⟨R,0,none⟩ (.int .i64 0)).setCell ⟨R,1,none⟩ (.string (bs ([]:Stp)))).setCell ⟨R,2,none⟩ (.slice none 0 0)).setCell ⟨R,3,none⟩ (.slice none 0 0)=WF:=hWF
          first
            | rw[hWF']
            | (have hWF2:(((w2.setCell ⟨R,0,none⟩ (.int .i64 0)).setCell ⟨R,1,none⟩ (.string ⟨#[]⟩)).setCell ⟨R,2,none⟩ (.slice none 0 0)).setCell ⟨R,3,none⟩ (.slice none 0 0)=WF:=hWF
               rw[hWF2])
          clear hWF hWF' hPN r0 r1 r2 r3 f0 f1 f2 f3 HPN
          obtain⟨d0,d1,d2,d3,_⟩:=box4 HPN2.out.2.2
          refine bodyPost_ret (v:= .tuple #[.agg #[.int .i64 0, .string (bs ([]:Stp)),(.slice none 0 0),(.slice none 0 0)], .int .i64 er]) ?_ rfl ⟨⟨_,_,rfl,HPN2.out.1⟩,HPN2.out.2.1⟩
          simp[results,Tryz.results63,go_sem,d0,d1,d2,d3]
    rw[if_neg hq]
    have d34:((c.toNat:Int)==34)=false:=by rw[show (34:Int)=((34:UInt8).toNat:Int) from rfl,q34];exact beq_eq_false_iff_ne.2 (fun e=>hq (.inl e))
    have d39:((c.toNat:Int)==39)=false:=by rw[show (39:Int)=((39:UInt8).toNat:Int) from rfl,q39];exact beq_eq_false_iff_ne.2 (fun e=>hq (.inr e))
    clear hq q34 q39 CT COf
    by_cases hq:c=91∨c=123
    · rw[if_pos hq]
      have hcc:((c.toNat:Int)==91)=true∨(((c.toNat:Int)==91)=false∧((c.toNat:Int)==123)=true):=by
        rcases hq with rfl | rfl
        · exact .inl rfl
        · exact .inr ⟨rfl,rfl⟩
      clear hq q91 q123 CB CRes
      obtain⟨⟨T,at_,er⟩,hT⟩: ∃S,readJ t=S:=⟨_,rfl⟩
      rw[hT] at CJ
      rw[hT]
      simp only[] at CJ ⊢
      clear hT
      rcases hcc with d91 | ⟨d91,d123⟩
      all_goals
        go_enter Tryz.func63,Tryz.ntmps63
        go_upto_region 1 with fail
        clear hW1 hR
        go_wp2_with fail
        refine(CJ.out _ (Below.refl _ _)).mono ?_
        rintro e w2 ⟨⟨kv,iv,rfl,hv2⟩,hb2⟩
        obtain⟨pk,ck,px,cx,rfl,rfl⟩:=hv2.form
        have hba:=below_alloc1 w2 (.cells #[.int .i64 T.kind, .string (bs T.text), .slice pk T.keys.length ck, .slice px T.items.length cx] 36)
        obtain⟨w3,hw3⟩: ∃w3,w2.alloc (.cells #[.int .i64 T.kind, .string (bs T.text), .slice pk T.keys.length ck, .slice px T.items.length cx] 36)=w3:=⟨_,rfl⟩
        have hz:w3.heap[w2.heap.size]?=some (.cells #[.int .i64 T.kind, .string (bs T.text), .slice pk T.keys.length ck, .slice px T.items.length cx] 36):=by rw[←hw3];exact heap_alloc_new w2 _
        rw[hw3] at hba
        have HB3:=hid (below_of_new hb2 hba)
        have HV3:=hid (hv2.keep hba)
        obtain⟨z0,z1,z2,z3,_⟩:=box4 hz
        have hRZ:R<w2.heap.size:=Nat.lt_of_lt_of_le HRl.out hb2.size
        have hRZ2:R≠w2.heap.size:=by omega
        unfold vv
        clear hv2 hb2 hba hz
        have HPN:=hid (putNew (t:=T) HB1.out HRw.out HRl.out HV3.out HB3.out HR1.out)
        obtain⟨r0,r1,r2,r3,f0,f1,f2,f3⟩:=box4 ((HB3.out.block R HRl.out).trans HR1.out)
        go_wp2_with fail
        obtain⟨WF,hWF⟩: ∃W,putV w3 R T.kind T.text (.slice pk T.keys.length ck) (.slice px T.items.length cx)=W:=⟨_,rfl⟩
        have hPN:VDf w.heap.size (putV w3 R T.kind T.text (.slice pk T.keys.length ck) (.slice px T.items.length cx)) (T).depth (T) (.slice pk T.keys.length ck) (.slice px T.items.length cx)∧Below w.heap.size w (putV w3 R T.kind T.text (.slice pk T.keys.length ck) (.slice px T.items.length cx))∧(putV w3 R T.kind T.text (.slice pk T.keys.length ck) (.slice px T.items.length cx)).heap[R]?=some (.cells #[.int .i64 T.kind, .string (bs T.text),(.slice pk T.keys.length ck),(.slice px T.items.length cx)] 36):=HPN.out
        rw[hWF] at hPN
        have HPN2:=hid hPN
        have hWF':(((w3.setCell ⟨R,0,none⟩ (.int .i64 T.kind)).setCell ⟨R,1,none⟩ (.string (bs T.text))).setCell ⟨R,2,none⟩ (.slice pk T.keys.length ck)).setCell ⟨R,3,none⟩ (.slice px T.items.length cx)=WF:=hWF
        first
          | rw[hWF']
          | (have hWF2:(((w3.setCell ⟨R,0,none⟩ (.int .i64 T.kind)).setCell ⟨R,1,none⟩ (.string ⟨#[]⟩)).setCell ⟨R,2,none⟩ (.slice pk T.keys.length ck)).setCell ⟨R,3,none⟩ (.slice px T.items.length cx)=WF:=hWF
             rw[hWF2])
        clear hWF hWF' hPN r0 r1 r2 r3 f0 f1 f2 f3 HPN
        obtain⟨d0,d1,d2,d3,_⟩:=box4 HPN2.out.2.2
        refine bodyPost_ret (v:= .tuple #[.agg #[.int .i64 T.kind, .string (bs T.text),(.slice pk T.keys.length ck),(.slice px T.items.length cx)], .int .i64 er]) ?_ rfl ⟨⟨_,_,rfl,HPN2.out.1⟩,HPN2.out.2.1⟩
        simp[results,Tryz.results63,go_sem,d0,d1,d2,d3]
    rw[if_neg hq]
    have d91:((c.toNat:Int)==91)=false:=by rw[show (91:Int)=((91:UInt8).toNat:Int) from rfl,q91];exact beq_eq_false_iff_ne.2 (fun e=>hq (.inl e))
    have d123:((c.toNat:Int)==123)=false:=by rw[show (123:Int)=((123:UInt8).toNat:Int) from rfl,q123];exact beq_eq_false_iff_ne.2 (fun e=>hq (.inr e))
    clear hq q91 q123 CJ
    obtain⟨B,hB⟩: ∃B,bareB t=B:=⟨_,rfl⟩
    rw[hB] at CB
    rw[hB]
    clear hB
    cases B with
    | false=>
      rw[if_neg (by simp)]
      go_enter Tryz.func63,Tryz.ntmps63
      go_upto_region 1 with fail
      clear hW1 hR
      go_wp2_with fail
      refine(CB.out _ (Below.refl _ _)).mono ?_
      rintro e w2 ⟨rfl,hb2⟩
      have HB2:=hid hb2
      clear hb2
      have HPN:=hid (putNew (t:=zeroT) HB1.out HRw.out HRl.out (leafV _ _ _ _) HB2.out HR1.out)
      obtain⟨r0,r1,r2,r3,f0,f1,f2,f3⟩:=box4 ((HB2.out.block R HRl.out).trans HR1.out)
      go_wp2_with fail
      obtain⟨WF,hWF⟩: ∃W,putV w2 R 0 ([]:Stp) (.slice none 0 0) (.slice none 0 0)=W:=⟨_,rfl⟩
      have hPN:VDf w.heap.size (putV w2 R 0 ([]:Stp) (.slice none 0 0) (.slice none 0 0)) (zeroT).depth (zeroT) (.slice none 0 0) (.slice none 0 0)∧Below w.heap.size w (putV w2 R 0 ([]:Stp) (.slice none 0 0) (.slice none 0 0))∧(putV w2 R 0 ([]:Stp) (.slice none 0 0) (.slice none 0 0)).heap[R]?=some (.cells #[.int .i64 0, .string (bs ([]:Stp)),(.slice none 0 0),(.slice none 0 0)] 36):=HPN.out
      rw[hWF] at hPN
      have HPN2:=hid hPN
      have hWF':(((w2.setCell ⟨R,0,none⟩ (.int .i64 0)).setCell ⟨R,1,none⟩ (.string (bs ([]:Stp)))).setCell ⟨R,2,none⟩ (.slice none 0 0)).setCell ⟨R,3,none⟩ (.slice none 0 0)=WF:=hWF
      first
        | rw[hWF']
        | (have hWF2:(((w2.setCell ⟨R,0,none⟩ (.int .i64 0)).setCell ⟨R,1,none⟩ (.string ⟨#[]⟩)).setCell ⟨R,2,none⟩ (.slice none 0 0)).setCell ⟨R,3,none⟩ (.slice none 0 0)=WF:=hWF
           rw[hWF2])
      clear hWF hWF' hPN r0 r1 r2 r3 f0 f1 f2 f3 HPN
      obtain⟨d0,d1,d2,d3,_⟩:=box4 HPN2.out.2.2
      refine bodyPost_ret (v:= .tuple #[.agg #[.int .i64 0, .string (bs ([]:Stp)),(.slice none 0 0),(.slice none 0 0)], .int .i64 2]) ?_ rfl ⟨⟨_,_,rfl,HPN2.out.1⟩,HPN2.out.2.1⟩
      simp[results,Tryz.results63,go_sem,d0,d1,d2,d3]
    | true =>
      rw[if_pos rfl]
      have CR:=hid (fun w' hb=>CRes.out t w' (by omega) hb)
      obtain⟨⟨rk,rs⟩,hrs⟩: ∃Q,resP t=Q:=⟨_,rfl⟩
      have hrt:resT t= .mk rk rs [] []:=by unfold resT;rw[hrs]
      rw[hrs] at CR
      rw[hrt]
      clear hrs hrt CRes
      go_enter Tryz.func63,Tryz.ntmps63
      go_upto_region 1 with fail
      clear hW1 hR
      go_wp2_with fail
      refine(CB.out _ (Below.refl _ _)).mono ?_
      rintro e w2 ⟨rfl,hb2⟩
      have HB2:=hid hb2
      clear hb2
      go_wp2_with fail
      refine(CR.out _ HB2.out).mono ?_
      rintro e w3 ⟨rfl,hb3⟩
      have HB3:=hid (below_of_new HB2.out hb3)
      clear hb3
      have HPN:=hid (putNew (t:=VT.mk rk rs [] []) HB1.out HRw.out HRl.out (leafV _ _ _ _) HB3.out HR1.out)
      obtain⟨r0,r1,r2,r3,f0,f1,f2,f3⟩:=box4 ((HB3.out.block R HRl.out).trans HR1.out)
      go_wp2_with fail
      obtain⟨WF,hWF⟩: ∃W,putV w3 R rk rs (.slice none 0 0) (.slice none 0 0)=W:=⟨_,rfl⟩
      have hPN:VDf w.heap.size (putV w3 R rk rs (.slice none 0 0) (.slice none 0 0)) (VT.mk rk rs [] []).depth (VT.mk rk rs [] []) (.slice none 0 0) (.slice none 0 0)∧Below w.heap.size w (putV w3 R rk rs (.slice none 0 0) (.slice none 0 0))∧(putV w3 R rk rs (.slice none 0 0) (.slice none 0 0)).heap[R]?=some (.cells #[.int .i64 rk, .string (bs rs),(.slice none 0 0),(.slice none 0 0)] 36):=HPN.out
      rw[hWF] at hPN
      have HPN2:=hid hPN
      have hWF':(((w3.setCell ⟨R,0,none⟩ (.int .i64 rk)).setCell ⟨R,1,none⟩ (.string (bs rs))).setCell ⟨R,2,none⟩ (.slice none 0 0)).setCell ⟨R,3,none⟩ (.slice none 0 0)=WF:=hWF
      first
        | rw[hWF']
        | (have hWF2:(((w3.setCell ⟨R,0,none⟩ (.int .i64 rk)).setCell ⟨R,1,none⟩ (.string ⟨#[]⟩)).setCell ⟨R,2,none⟩ (.slice none 0 0)).setCell ⟨R,3,none⟩ (.slice none 0 0)=WF:=hWF
           rw[hWF2])
      clear hWF hWF' hPN r0 r1 r2 r3 f0 f1 f2 f3 HPN
      obtain⟨d0,d1,d2,d3,_⟩:=box4 HPN2.out.2.2
      refine bodyPost_ret (v:= .tuple #[.agg #[.int .i64 rk, .string (bs rs),(.slice none 0 0),(.slice none 0 0)], .int .i64 0]) ?_ rfl ⟨⟨_,_,rfl,HPN2.out.1⟩,HPN2.out.2.1⟩
      simp[results,Tryz.results63,go_sem,d0,d1,d2,d3]
end Go.Proofs.YtlibkhbachmcgaaGreatDoor
namespace Go.Proofs.YtlibkhbachmcgaaGreatDoor
set_option linter.unusedSimpArgs false
set_option linter.unusedVariables false
open Go.Lib hiding intOf
theorem textL_len2 (n:Num) (h:n.dig.length≤1000) (he: -1000000≤n.exp∧n.exp≤1000000):(textL n).length≤1100:=by
 have hi:=itoa_len n.exp (by omega)
 unfold textL
 split
 ·simp
 ·split
  ·simp
  ·split<;>split<;>simp<;>omega
theorem parse_text_len (s:Stp) (h:(parseL s).2=0):(textL (parseL s).1).length≤1100:=by
 have hr:=rightB_bd (parseL_right (l:=s) (n:=(parseL s).1) (Prod.ext rfl h))
 exact textL_len2 _ hr.1 hr.2
theorem readR_len2: ∀(f:Nat) (l:List UInt8) (i:Nat) (acc:List UInt8),(readGo f l i acc).1.length≤acc.length+4*l.length
 | 0,_,_,_=>by simp[readGo]
 | _+1,[],_,_=>by simp[readGo]
 | f+1,c::r,i,acc=>by
  unfold readGo
  split
  ·simp
  ·split
   ·simp
   ·rename_i h
    have hp:=partL_bd (c::r) (List.cons_ne_nil _ _)
    obtain⟨P,hP⟩: ∃P,partL (c::r)=P:=⟨_,rfl⟩
    rw[hP] at hp h ⊢
    have:=readR_len2 f ((c::r).drop P.2.toNat) (i+P.2.toNat) (acc++encodeRune P.1)
    have h4:=Lib.runeCells_le P.1
    rw[Lib.runeCells_length] at h4
    rw[List.length_drop,List.length_append] at this
    omega
theorem unqL_len2 (l:List UInt8):(unqL l).1.length≤4*(l.length-1):=by
 have h:(readL l 0).1.length≤4*(l.length-1):=by
  unfold readL
  split
  ·have:=readR_len2 (l.length+1) (l.drop ((0:Int).toNat+1)) ((0:Int).toNat+1) []
   rw[List.length_drop] at this
   simp only[List.length_nil] at this
   have e0:(0:Int).toNat=0:=rfl
   rw[e0] at this
   rw[e0]
   omega
  ·simp
 unfold unqL
 split
 ·simp
 ·exact h
theorem parse_nought (s:Stp) (he:(parseL s).2≠0):(parseL s).1=nought:=by
 unfold parseL at he ⊢
 cases hl:litOf s with
 | none=>rfl
 | some x=>
  rw[hl] at he
  simp only[] at he ⊢
  obtain⟨q,hq⟩: ∃q,parseLit x=q:=⟨_,rfl⟩
  rw[hq] at he ⊢
  unfold parseLit at hq
  simp only[] at hq
  (repeat' split at hq)<;>subst hq<;>first | rfl | exact absurd rfl he
end Go.Proofs.YtlibkhbachmcgaaGreatDoor
namespace Go.Proofs.YtlibkhbachmcgaaGreatDoor
set_option linter.unusedSimpArgs false
set_option linter.unusedVariables false
open Go.Lib
theorem textV_len3 (txt:Stp) (ht:txt.length≤65536) (kd:Nat) (sp:Sp):(textV kd (slT txt sp)).length≤262144:=by
 have hl:=slT_len txt sp
 unfold textV
 split
 ·omega
 ·split
  ·by_cases he:(parseL (slT txt sp)).2=0
   ·have:=parse_text_len (slT txt sp) he
    omega
   ·have hz:(parseL (slT txt sp)).1=nought:=parse_nought _ he
    rw[hz]
    decide+kernel
  ·split
   ·have:=unqL_len2 (slT txt sp)
    omega
   ·simp
theorem keyV_len3 (txt:Stp) (ns:List NodeD) (ht:txt.length≤65536) (k:Nat):(keyV txt ns k).length≤262144:=by
 unfold keyV
 split
 ·have:=unqL_len2 (slT txt (by assumption:NodeD).key)
  have h2:=slT_len txt (by assumption:NodeD).key
  omega
 ·simp
theorem readJ_bulk3 (t:Stp) (ht:t.length≤65536):(readJ t).1.bulk≤1099511627776:=by
 unfold readJ
 by_cases he:(parseJ t).2.2=0
 ·rw[if_neg (by simp[he])]
  obtain⟨⟨ns,at_,er⟩,hP⟩: ∃P,parseJ t=P:=⟨_,rfl⟩
  rw[hP] at he
  change er=0 at he
  subst he
  have hT:=parse_tree hP
  have hN:=parse_few t
  rw[hP] at hN ⊢
  simp only[] at hN ⊢
  have:=node_bulk t ns 262144 (textV_len3 t ht) (keyV_len3 t ns ht) 32 0 ns.length hT
  have h2:(ns.length-0)*(2*262144+2)≤65536*524290:=Nat.mul_le_mul (by omega) (by omega)
  omega
 ·rw[if_pos he]
  show zeroT.bulk≤_
  decide+kernel
theorem resT_bulk3 (s:Stp) (h:s.length≤65536):(resT s).bulk≤1099511627776:=by
 unfold resT
 rw[VT.bulk]
 simp only[bulks,totS,List.map_nil,List.sum_nil,List.length_nil]
 unfold resP
 split
 ·simp
 ·split
  ·simp only[];omega
  ·split
   ·rename_i he
    have:=parse_text_len s he
    simp only[];omega
   ·simp only[];omega
theorem sqGo_len3: ∀(f:Nat) (l:Stp) (i:Nat) (acc:Stp),(sqGo f l i acc).1.length≤acc.length+l.length
 | 0,l,i,acc=>by simp[sqGo]
 | _+1,[],i,acc=>by simp[sqGo]
 | f +1,c::r,i,acc=>by
  rw[sqGo_cons]
  have h1:=sqGo_len3 f (r.drop 1) (i+2) (acc++ [39])
  have h2:=sqGo_len3 f ((c::r).drop (decodeL (c::r)).2) (i+(decodeL (c::r)).2) (acc++(c::r).take (decodeL (c::r)).2)
  have hd:=decodeL_le (c::r) (List.cons_ne_nil _ _)
  rw[List.length_append,List.length_drop] at h1 h2
  rw[List.length_take] at h2
  simp only[List.length_singleton,List.length_cons,List.length_nil] at h1 h2 hd ⊢
  split
  ·split
   ·rename_i hh
    have hr:1≤r.length:=by
     cases r with
     | nil=>simp at hh
     | cons _ _=>simp
    omega
   ·simp only[];omega
  ·split
   ·simp
   ·omega
theorem textY_len3 (t:Stp):(textY t).1.length≤4*t.length:=by
 unfold textY
 split
 ·unfold singleY
  split
  ·simp
  ·simp only[]
   unfold sqL
   split
   ·simp
   ·split
    ·have:=sqGo_len3 (t.length+1) (t.drop ((0:Int).toNat+1)) ((0:Int).toNat+1) []
     rw[List.length_drop] at this
     simp only[List.length_nil] at this
     omega
    ·simp
 ·have:=unqL_len2 t
  simp only[]
  omega
theorem readY_bulk3 (t:Stp) (h:t.length≤65536):(readY t).1.bulk≤1099511627776:=by
 have hz:zeroT.bulk≤1099511627776:=by decide+kernel
 unfold readY
 split
 ·exact resT_bulk3 [] (by simp)
 ·rename_i c r
  split
  ·split
   ·exact hz
   ·have:=textY_len3 (c::r)
    show (strT _).bulk≤_
    unfold strT
    rw[VT.bulk]
    simp only[bulks,totS,List.map_nil,List.sum_nil,List.length_nil]
    omega
  ·split
   ·exact readJ_bulk3 _ h
   ·split
    ·exact resT_bulk3 _ h
    ·exact hz
end Go.Proofs.YtlibkhbachmcgaaGreatDoor
