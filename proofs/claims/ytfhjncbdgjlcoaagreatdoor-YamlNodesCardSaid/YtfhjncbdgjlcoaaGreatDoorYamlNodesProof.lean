import Derived.Test.YtfhjncbdgjlcoaaGreatDoorYn47
import Derived.Deep.DeepWitnessRowRef
namespace Go.Proofs.YtfhjncbdgjlcoaaGreatDoor.yamlNodes
open Go.Shelf
open Go.ChangeShapes Go.WideShapes Go.ChangeAt Go.RowKit
open Go.ChangeMaps (open_string shut_string)
set_option linter.unusedVariables false
set_option linter.unusedSimpArgs false
theorem laid_out:laidOutB Tryz.prog=true:=by kernel_rfl
theorem own:ownKnob Tryz.prog.godebug=none:=by kernel_rfl
theorem laid_is:Rows.yamlNodesRow.laid=uC:=rfl
theorem witness_row (os:Os) {H:Type} (enc:TypeId×Value→H):
  (OpenSpec.ofChange Rows.yamlNodesSpec).preRow enc Tryz.prog Tryz.f4 Rows.yamlNodesRow.domain false Rows.yamlNodesRow.laid ((Da os).forCall (fun _ _=>0) ⟨#[], #[.string ⟨#[]⟩, .int .i64 0],[]⟩).memory #[.string ⟨#[]⟩, .int .i64 0]:=by
 have hw:(DataW.whole enc Tryz.prog ((Da os).forCall (fun _ _=>0) ⟨#[], #[.string ⟨#[]⟩, .int .i64 0],[]⟩).memory Tryz.f4.params.toList Rows.yamlNodesSpec.vars false (#[.string ⟨#[]⟩, .int .i64 0]:Array Value).toList 8).map (fun x=>(x.1,x.2.1))=
   some ([.lit (.string []), .lit (.int .i64 0)],[]):=by kernel_rfl
 obtain⟨⟨x1,x2,x3⟩,hx,hx1⟩:=Option.map_eq_some_iff.1 hw
 simp only[Prod.mk.injEq] at hx1
 obtain⟨rfl,rfl⟩:=hx1
 exact OpenSpec.preRow_of_cond 8 hx (by kernel_rfl) (fun k hk=>by cases hk) (by kernel_rfl) (laid_is ▸ aDX os _)
set_option maxRecDepth 100000 in
set_option maxHeartbeats 2000000 in
theorem lifted (os:Os) (started:os.Started) (H:Type) (enc:TypeId×Value→H) (F:Stop.Interp):
  ReturnsInHanded {} Tryz.checked os 4 .any ((OpenSpec.ofChange Rows.yamlNodesSpec).preRow enc Tryz.prog Tryz.f4 Rows.yamlNodesRow.domain false Rows.yamlNodesRow.laid) (((OpenSpec.ofChange Rows.yamlNodesSpec).at F).post enc Tryz.prog Tryz.f4 false true false false):=by
 refine returnsInHanded_of_row (C:=Tryz.checked) (s:=(OpenSpec.ofChange Rows.yamlNodesSpec)) own started (by kernel_rfl) Tryz.func4
  (witness_row_atRef (enc:=enc) (C:=Tryz.checked) false (Da os) #[.string ⟨#[]⟩, .int .i64 0] rfl (by kernel_rfl) (by kernel_rfl) (by kernel_rfl) (witness_row os enc)) ?_
 intro W base args ds gs before hval0 hW _ hcond hsz0 hL hsh _
 have hval: ∀(j:Nat) t v,Tryz.f4.params[j]?=some t→args[j]?=some v→Value.okWide Tryz.prog W .any base t v:=hval0
 have hW':=hW
 obtain⟨p,q,hA0,hV0,rfl,_,_⟩:=hW
 have hA:DataW.TrodAll enc Tryz.prog W 0 (fun _=>true) true Tryz.f4.params.toList args.toList ds p:=hA0
 have hsz:(DataW.weightsEach Tryz.prog (Tryz.f4.params.toList++([]:List TypeId)) (ds++gs)).all (· ≤reachBytes)=true:=hsz0
 rw[Tryz.params4] at hA hval hsz
 obtain⟨v0,vs0,d0,ds0,p0,q0,hargs,rfl,rfl,h0,r0⟩:=trodAll_cons hA
 obtain⟨v1,vs1,d1,ds1,p1,q1,rfl,rfl,rfl,h1,r1⟩:=trodAll_cons r0
 obtain⟨rfl,rfl,rfl⟩:=trodAll_nil r1
 obtain rfl:args= #[v0,v1]:=by cases args;simp_all
 obtain⟨rfl,rfl⟩:=trodVars_none hV0
 obtain⟨a0,rfl,rfl,rfl,w0⟩:=open_string Tryz.underlying9 (hval 0 9 v0 rfl rfl) h0
 obtain⟨a1,rfl,rfl,rfl,w1⟩:=open_int Tryz.underlying3 (hval 1 3 v1 rfl rfl) h1
 have z0:a0.size≤140737488351232:=by
  have hk:=sized_string hsz (j:=0) (t:=9) (bytes:=a0.data.toList) rfl rfl
  have e:a0.data.toList.length=a0.size:=rfl
  unfold reachBytes at hk
  omega
 have b1:=aEe w1
 have hL:laidMet Tryz.prog uC W:=hL
 have hV:=(show bV W from ⟨⟨⟨aEc hL,aDY hL⟩,aEb hL,aEd hsh⟩,aEa hL⟩)
 clear hA0 hV0 hval0 hsz0 hsz hcond hL
 simp only[List.append_nil] at hW'
 refine(aDW a0 a1 W hV).mono ?_
 rintro e W' ⟨rfl,bel⟩
 have e1:((OpenSpec.ofChange Rows.yamlNodesSpec).at F).fn H ([(.lit (.string a0.data.toList)),(.lit (.int .i64 a1))]++ [])= { results:= [.lit (.bool true)],args:= [(.lit (.string a0.data.toList)),(.lit (.int .i64 a1))] }:=rfl
 refine⟨_,rfl,_,_,_,[],([]++([]++ [])),[],hW',?_,?_,?_,bel.frame _,fun h=>by cases h⟩
 ·rw[e1];exact trodAll_cons_mk (shut_bool Tryz.underlying4 _) trodAll_mk0
 ·rw[e1];exact(trodAll_cons_mk (shut_string Tryz.underlying9 w0) (trodAll_cons_mk (shut_int Tryz.underlying3 w1) trodAll_mk0))
 ·rw[e1];rfl
set_option maxRecDepth 100000 in
set_option maxHeartbeats 8000000 in
theorem closed:joinedFacts Tryz.pinned.checked.prog 4 Tryz.f4 ((OpenSpec.ofChange Rows.yamlNodesSpec)).bare Rows.yamlNodesRow=true:=by
 unfold joinedFacts
 simp only[Bool.and_eq_true]
 and_intros
 all_goals (as_aux_lemma=>kernel_rfl)
theorem said:Rows.YamlNodesSaid:=
 OpenClaim.holds_of_cond 4 Tryz.f4 rfl rfl rfl rfl rfl rfl rfl ⟨rfl,rfl,rfl,rfl,rfl⟩ rfl rfl rfl rfl rfl (by kernel_rfl) Tryz.func4 closed
  (of_decide_eq_true (by kernel_rfl)) (by unfold Func.isWrapper;first | (rw[if_pos (by decide+kernel)];kernel_rfl) | (rw[if_neg (by decide+kernel)];exact⟨rfl,rfl⟩))
  (fun os started H enc _ F0=>by rw[OpenClaim.pre_eq_preRow];exact lifted os started H enc F0)
theorem plain (f:FuncId) (fn:Func) (hf:Tryz.pinned.checked.prog.funcNamed Rows.yamlNodesRow.func=some f) (hfn:Tryz.pinned.checked.prog.funcs[f]?=some fn):
  true=Tryz.pinned.checked.prog.looks []∧ ∀(j:Nat) t,fn.params[j]?=some t→Tryz.pinned.checked.prog.wantsStandIn t=false:=by
 obtain rfl:f=4:=Option.some.inj ((show Tryz.prog.funcNamed Rows.yamlNodesRow.func=some 4 by kernel_rfl).symm.trans hf) |>.symm
 obtain rfl:fn=Tryz.f4:=(Option.some.inj (Tryz.func4.symm.trans hfn)).symm
 refine⟨by kernel_rfl,fun j t ht=>?_⟩
 rw[Tryz.params4] at ht
 have hm:=Array.mem_of_getElem? ht
 simp only[List.mem_toArray,List.mem_cons,List.not_mem_nil,or_false] at hm
 rcases hm with rfl | rfl
 all_goals exact(show Tryz.prog.wantsStandIn _=false by kernel_rfl)
theorem card:Rows.YamlNodesCardSaid:=
 Claim7.holds_tied_plain_at .later [] _ _ _ _ said (fun _ h=>by cases h) (by kernel_rfl) (fun _ h=>by cases h) yamlNodes_row_tie rfl ⟨rfl,rfl⟩ (by kernel_rfl) rfl plain (by kernel_rfl)
end Go.Proofs.YtfhjncbdgjlcoaaGreatDoor.yamlNodes
