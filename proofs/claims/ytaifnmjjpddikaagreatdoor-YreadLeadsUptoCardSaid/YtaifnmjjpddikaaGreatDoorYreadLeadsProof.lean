import Derived.Test.YtaifnmjjpddikaaGreatDoorCards
import Derived.Test.YtaifnmjjpddikaaGreatDoorTie
import Derived.Test.YtaifnmjjpddikaaGreatDoorRl33
import Derived.Lib.LaidIn
import Derived.Lib.LaidU8T
import Derived.PinnedBridge
import Derived.Deep.DeepHandedRow
import Derived.Deep.DeepWitnessRowRef
import Derived.ProofKit
import Derived.OpenShut
import Derived.ShutString
import Derived.SizedLaws
namespace Go.Proofs.YtaifnmjjpddikaaGreatDoor.yreadLeads
open Go.Shelf
open Go.ChangeShapes Go.WideShapes Go.ChangeAt Go.RowKit
open Go.ChangeMaps (open_string shut_string)
set_option linter.unusedVariables false
set_option linter.unusedSimpArgs false
theorem laid_out:laidOutB Tryz.prog=true:=by kernel_rfl
theorem own:ownKnob Tryz.prog.godebug=none:=by kernel_rfl
theorem laid_is:Rows.yreadLeadsUptoRow.laid=rW:=rfl
theorem witness_row (os:Os) {H:Type} (enc:TypeId×Value→H):
  (Rows.OpenSpec.upto Rows.yreadLeadsSpec).preRow enc Tryz.prog Tryz.f4 Rows.yreadLeadsUptoRow.domain false Rows.yreadLeadsUptoRow.laid ((Ah os).forCall (fun _ _=>0) ⟨#[], #[.string ⟨#[]⟩, .slice none 0 0],[]⟩).memory #[.string ⟨#[]⟩, .slice none 0 0]:=by
 have hw:(DataW.whole enc Tryz.prog ((Ah os).forCall (fun _ _=>0) ⟨#[], #[.string ⟨#[]⟩, .slice none 0 0],[]⟩).memory Tryz.f4.params.toList Rows.yreadLeadsSpec.vars false (#[.string ⟨#[]⟩, .slice none 0 0]:Array Value).toList 8).map (fun x=>(x.1,x.2.1))=
   some ([.lit (.string []), .nil],[]):=by kernel_rfl
 obtain⟨⟨x1,x2,x3⟩,hx,hx1⟩:=Option.map_eq_some_iff.1 hw
 simp only[Prod.mk.injEq] at hx1
 obtain⟨rfl,rfl⟩:=hx1
 exact OpenSpec.preRow_of_cond 8 hx (by kernel_rfl) (fun k hk=>by cases hk;kernel_rfl) (by kernel_rfl) (laid_is ▸ aCS os _)
set_option maxRecDepth 100000 in
set_option maxHeartbeats 2000000 in
theorem lifted (os:Os) (started:os.Started) (H:Type) (enc:TypeId×Value→H) (F:Stop.Interp):
  ReturnsInHanded {} Tryz.checked os 4 .any ((Rows.OpenSpec.upto Rows.yreadLeadsSpec).preRow enc Tryz.prog Tryz.f4 Rows.yreadLeadsUptoRow.domain false Rows.yreadLeadsUptoRow.laid) (((Rows.OpenSpec.upto Rows.yreadLeadsSpec).at F).post enc Tryz.prog Tryz.f4 false true false false):=by
 refine returnsInHanded_of_row (C:=Tryz.checked) (s:=(Rows.OpenSpec.upto Rows.yreadLeadsSpec)) own started (by kernel_rfl) Tryz.func4
  (witness_row_atRef (enc:=enc) (C:=Tryz.checked) false (Ah os) #[.string ⟨#[]⟩, .slice none 0 0] rfl (by kernel_rfl) (by kernel_rfl) (by kernel_rfl) (witness_row os enc)) ?_
 intro W base args ds gs before hval0 hW _ hcond hsz0 hL hsh _
 have hval: ∀(j:Nat) t v,Tryz.f4.params[j]?=some t→args[j]?=some v→Value.okWide Tryz.prog W .any base t v:=hval0
 have hW':=hW
 obtain⟨p,q,hA0,hV0,rfl,_,_⟩:=hW
 have hA:DataW.TrodAll enc Tryz.prog W 0 (fun _=>true) true Tryz.f4.params.toList args.toList ds p:=hA0
 have hsz:(DataW.weightsEach Tryz.prog (Tryz.f4.params.toList++([]:List TypeId)) (ds++gs)).all (· ≤reachBytes)=true:=hsz0
 rw[Tryz.params4] at hA hval hsz
 obtain⟨v0,vs0,d0,ds0,p0,q0,hargs,rfl,rfl,h0,r0⟩:=trodAll_cons hA
 obtain⟨v1,vs1,d1,ds1,p1,q1,rfl,rfl,rfl,h1,r1⟩:=trodAll_cons r0
 obtain⟨rfl,rfl,rfl⟩:=trodAll_nil r1
 obtain rfl:args= #[v0,v1]:=by cases args;simp_all
 obtain⟨rfl,rfl⟩:=trodVars_none hV0
 obtain⟨a0,rfl,rfl,rfl,w0⟩:=open_string Tryz.underlying9 (hval 0 9 v0 rfl rfl) h0
 obtain⟨l1,y1,k1⟩:=aDc (hval 1 23 v1 rfl rfl) h1
 have z0:a0.size≤1048576:=by
  have hk:=of_decide_eq_true (hcond _ rfl)
  simp only[Rows.uptoBulkAll,Rows.uptoBulk,List.cons_append,List.nil_append] at hk
  have e:a0.data.toList.length=a0.size:=rfl
  omega
 have z1:gE l1+l1.length≤1048576:=by
  have hk:=of_decide_eq_true (hcond _ rfl)
  simp only[Rows.uptoBulkAll,Rows.uptoBulk,List.cons_append,List.nil_append] at hk
  omega
 have lt1: ∀x∈p1,x.block<W.heap.size:=fun x hx=>by have:=hW'.lt x (by simp[hx]);simpa using this
 have hL:laidMet Tryz.prog rW W:=hL
 have hV:=(show bU W from ⟨⟨⟨aCX hL,aCT hL⟩,aCW hL,aCY hsh⟩,aCV hL⟩)
 clear hA0 hV0 hval0 hsz0 hsz hcond hL
 simp only[List.append_nil] at hW'
 refine(aCR a0 l1 v1 W (by omega) y1 (by omega) (fun x hx=>by have:=Hr hx;omega) hV).mono ?_
 rintro e W' ⟨rfl,bel⟩
 have e1:((Rows.OpenSpec.upto Rows.yreadLeadsSpec).at F).fn H ([(.lit (.string a0.data.toList)),d1]++ [])= { results:= [.lit (.bool true)],args:= [(.lit (.string a0.data.toList)),d1] }:=rfl
 refine⟨_,rfl,_,_,_,[],([]++(p1++ [])),[],hW',?_,?_,?_,bel.frame _,fun h=>by cases h⟩
 ·rw[e1];exact trodAll_cons_mk (shut_bool Tryz.underlying4 _) trodAll_mk0
 ·rw[e1];exact(trodAll_cons_mk (shut_string Tryz.underlying9 w0) (trodAll_cons_mk (Below.trod laid_out (by kernel_rfl) (of_decide_eq_true (by kernel_rfl)) h1 bel lt1) trodAll_mk0))
 ·rw[e1];rfl
set_option maxRecDepth 100000 in
set_option maxHeartbeats 8000000 in
theorem closed:joinedFacts Tryz.pinned.checked.prog 4 Tryz.f4 ((Rows.OpenSpec.upto Rows.yreadLeadsSpec)).bare Rows.yreadLeadsUptoRow=true:=by
 unfold joinedFacts
 simp only[Bool.and_eq_true]
 and_intros
 all_goals (as_aux_lemma=>kernel_rfl)
theorem said:Rows.YreadLeadsUptoSaid:=
 OpenClaim.holds_of_cond 4 Tryz.f4 rfl rfl rfl rfl rfl rfl rfl ⟨rfl,rfl,rfl,rfl,rfl⟩ rfl rfl rfl rfl rfl (by kernel_rfl) Tryz.func4 closed
  (of_decide_eq_true (by kernel_rfl)) (by unfold Func.isWrapper;first | (rw[if_pos (by decide+kernel)];kernel_rfl) | (rw[if_neg (by decide+kernel)];exact⟨rfl,rfl⟩))
  (fun os started H enc _ F0=>by rw[OpenClaim.pre_eq_preRow];exact lifted os started H enc F0)
theorem plain (f:FuncId) (fn:Func) (hf:Tryz.pinned.checked.prog.funcNamed Rows.yreadLeadsUptoRow.func=some f) (hfn:Tryz.pinned.checked.prog.funcs[f]?=some fn):
  true=Tryz.pinned.checked.prog.looks []∧ ∀(j:Nat) t,fn.params[j]?=some t→Tryz.pinned.checked.prog.wantsStandIn t=false:=by
 obtain rfl:f=4:=Option.some.inj ((show Tryz.prog.funcNamed Rows.yreadLeadsUptoRow.func=some 4 by kernel_rfl).symm.trans hf) |>.symm
 obtain rfl:fn=Tryz.f4:=(Option.some.inj (Tryz.func4.symm.trans hfn)).symm
 refine⟨by kernel_rfl,fun j t ht=>?_⟩
 rw[Tryz.params4] at ht
 have hm:=Array.mem_of_getElem? ht
 simp only[List.mem_toArray,List.mem_cons,List.not_mem_nil,or_false] at hm
 rcases hm with rfl | rfl
 all_goals exact(show Tryz.prog.wantsStandIn _=false by kernel_rfl)
theorem card:Rows.YreadLeadsUptoCardSaid:=
 Claim7.holds_tied_plain_at .later [] _ _ _ _ said (fun _ h=>by cases h) (by kernel_rfl) (fun _ h=>by cases h) yreadLeadsUpto_row_tie rfl ⟨rfl,rfl⟩ (by kernel_rfl) rfl plain (by kernel_rfl)
end Go.Proofs.YtaifnmjjpddikaaGreatDoor.yreadLeads
