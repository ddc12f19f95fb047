import Derived.Test.YtjnooaljcgkfpaaGreatDoorCards
import Derived.Test.YtjnooaljcgkfpaaGreatDoorTie
import Derived.Test.YtjnooaljcgkfpaaGreatDoorBk32
import Derived.Lib.LaidIn
import Derived.Lib.LaidU8T
import Derived.PinnedBridge
import Derived.Deep.DeepHandedRow
import Derived.Deep.DeepWitnessRowRef
import Derived.ProofKit
import Derived.OpenShut
import Derived.ShutString
import Derived.SizedLaws
namespace Go.Proofs.YtjnooaljcgkfpaaGreatDoor.yprintBack
open Go.Shelf
open Go.ChangeShapes Go.WideShapes Go.ChangeAt Go.RowKit
open Go.ChangeMaps (open_string shut_string)
set_option linter.unusedVariables false
set_option linter.unusedSimpArgs false
theorem laid_out:laidOutB Tryz.prog=true:=by kernel_rfl
theorem own:ownKnob Tryz.prog.godebug=none:=by kernel_rfl
theorem laid_is:Rows.yprintBackUptoRow.laid=tD:=rfl
theorem witness_row (os:Os) {H:Type} (enc:TypeId×Value→H):
  (Rows.OpenSpec.upto Rows.yprintBackSpec).preRow enc Tryz.prog Tryz.f3 Rows.yprintBackUptoRow.domain false Rows.yprintBackUptoRow.laid ((Co os).forCall (fun _ _=>0) ⟨#[], #[.agg #[.int .i64 0, .string ⟨#[]⟩, .slice none 0 0, .slice none 0 0]],[]⟩).memory #[.agg #[.int .i64 0, .string ⟨#[]⟩, .slice none 0 0, .slice none 0 0]]:=by
 have hw:(DataW.whole enc Tryz.prog ((Co os).forCall (fun _ _=>0) ⟨#[], #[.agg #[.int .i64 0, .string ⟨#[]⟩, .slice none 0 0, .slice none 0 0]],[]⟩).memory Tryz.f3.params.toList Rows.yprintBackSpec.vars false (#[.agg #[.int .i64 0, .string ⟨#[]⟩, .slice none 0 0, .slice none 0 0]]:Array Value).toList 8).map (fun x=>(x.1,x.2.1))=
   some ([.agg [.lit (.int .i64 0), .lit (.string []), .nil, .nil]],[]):=by kernel_rfl
 obtain⟨⟨x1,x2,x3⟩,hx,hx1⟩:=Option.map_eq_some_iff.1 hw
 simp only[Prod.mk.injEq] at hx1
 obtain⟨rfl,rfl⟩:=hx1
 exact OpenSpec.preRow_of_cond 8 hx (by kernel_rfl) (fun k hk=>by cases hk;kernel_rfl) (by kernel_rfl) (laid_is ▸ aFe os _)
set_option maxRecDepth 100000 in
set_option maxHeartbeats 2000000 in
theorem lifted (os:Os) (started:os.Started) (H:Type) (enc:TypeId×Value→H) (F:Stop.Interp):
  ReturnsInHanded {} Tryz.checked os 3 .any ((Rows.OpenSpec.upto Rows.yprintBackSpec).preRow enc Tryz.prog Tryz.f3 Rows.yprintBackUptoRow.domain false Rows.yprintBackUptoRow.laid) (((Rows.OpenSpec.upto Rows.yprintBackSpec).at F).post enc Tryz.prog Tryz.f3 false true false false):=by
 refine returnsInHanded_of_row (C:=Tryz.checked) (s:=(Rows.OpenSpec.upto Rows.yprintBackSpec)) own started (by kernel_rfl) Tryz.func3
  (witness_row_atRef (enc:=enc) (C:=Tryz.checked) false (Co os) #[.agg #[.int .i64 0, .string ⟨#[]⟩, .slice none 0 0, .slice none 0 0]] rfl (by kernel_rfl) (by kernel_rfl) (by kernel_rfl) (witness_row os enc)) ?_
 intro W base args ds gs before hval0 hW _ hcond hsz0 hL hsh _
 have hval: ∀(j:Nat) t v,Tryz.f3.params[j]?=some t→args[j]?=some v→Value.okWide Tryz.prog W .any base t v:=hval0
 have hW':=hW
 obtain⟨p,q,hA0,hV0,rfl,_,_⟩:=hW
 have hA:DataW.TrodAll enc Tryz.prog W 0 (fun _=>true) true Tryz.f3.params.toList args.toList ds p:=hA0
 have hsz:(DataW.weightsEach Tryz.prog (Tryz.f3.params.toList++([]:List TypeId)) (ds++gs)).all (· ≤reachBytes)=true:=hsz0
 rw[Tryz.params3] at hA hval hsz
 obtain⟨v0,vs0,d0,ds0,p0,q0,hargs,rfl,rfl,h0,r0⟩:=trodAll_cons hA
 obtain⟨rfl,rfl,rfl⟩:=trodAll_nil r0
 obtain rfl:args= #[v0]:=by cases args;simp_all
 obtain⟨rfl,rfl⟩:=trodVars_none hV0
 obtain⟨l0,kv0,iv0,rfl,y0,k0⟩:=aFq (hval 0 25 v0 rfl rfl) h0
 have z0:l0.bulk≤1048576:=by
  have hk:=of_decide_eq_true (hcond _ rfl)
  simp only[Rows.uptoBulkAll,Rows.uptoBulk,List.cons_append,List.nil_append] at hk
  omega
 have lt0: ∀x∈p0,x.block<W.heap.size:=fun x hx=>by have:=hW'.lt x (by simp[hx]);simpa using this
 have hL:laidMet Tryz.prog tD W:=hL
 have hV:=(show cG W from ⟨⟨⟨aFj hL,aFf hL⟩,aFi hL,aFk hsh⟩,aFh hL⟩)
 clear hA0 hV0 hval0 hsz0 hsz hcond hL
 simp only[List.append_nil] at hW'
 refine(aFd l0 kv0 iv0 W y0 z0 hV).mono ?_
 rintro e W' ⟨rfl,bel⟩
 have e1:((Rows.OpenSpec.upto Rows.yprintBackSpec).at F).fn H ([d0]++ [])= { results:= [.lit (.bool true)],args:= [d0] }:=rfl
 refine⟨_,rfl,_,_,_,[],(p0++ []),[],hW',?_,?_,?_,bel.frame _,fun h=>by cases h⟩
 ·rw[e1];exact trodAll_cons_mk (shut_bool Tryz.underlying4 _) trodAll_mk0
 ·rw[e1];exact(trodAll_cons_mk (Below.trod laid_out (by kernel_rfl) (of_decide_eq_true (by kernel_rfl)) h0 bel lt0) trodAll_mk0)
 ·rw[e1];rfl
set_option maxRecDepth 100000 in
set_option maxHeartbeats 8000000 in
theorem closed:joinedFacts Tryz.pinned.checked.prog 3 Tryz.f3 ((Rows.OpenSpec.upto Rows.yprintBackSpec)).bare Rows.yprintBackUptoRow=true:=by
 unfold joinedFacts
 simp only[Bool.and_eq_true]
 and_intros
 all_goals (as_aux_lemma=>kernel_rfl)
theorem said:Rows.YprintBackUptoSaid:=
 OpenClaim.holds_of_cond 3 Tryz.f3 rfl rfl rfl rfl rfl rfl rfl ⟨rfl,rfl,rfl,rfl,rfl⟩ rfl rfl rfl rfl rfl (by kernel_rfl) Tryz.func3 closed
  (of_decide_eq_true (by kernel_rfl)) (by unfold Func.isWrapper;first | (rw[if_pos (by decide+kernel)];kernel_rfl) | (rw[if_neg (by decide+kernel)];exact⟨rfl,rfl⟩))
  (fun os started H enc _ F0=>by rw[OpenClaim.pre_eq_preRow];exact lifted os started H enc F0)
theorem plain (f:FuncId) (fn:Func) (hf:Tryz.pinned.checked.prog.funcNamed Rows.yprintBackUptoRow.func=some f) (hfn:Tryz.pinned.checked.prog.funcs[f]?=some fn):
  true=Tryz.pinned.checked.prog.looks []∧ ∀(j:Nat) t,fn.params[j]?=some t→Tryz.pinned.checked.prog.wantsStandIn t=false:=by
 obtain rfl:f=3:=Option.some.inj ((show Tryz.prog.funcNamed Rows.yprintBackUptoRow.func=some 3 by kernel_rfl).symm.trans hf) |>.symm
 obtain rfl:fn=Tryz.f3:=(Option.some.inj (Tryz.func3.symm.trans hfn)).symm
 refine⟨by kernel_rfl,fun j t ht=>?_⟩
 rw[Tryz.params3] at ht
 have hm:=Array.mem_of_getElem? ht
 simp only[List.mem_toArray,List.mem_cons,List.not_mem_nil,or_false] at hm
 rcases hm with rfl
 all_goals exact(show Tryz.prog.wantsStandIn _=false by kernel_rfl)
theorem card:Rows.YprintBackUptoCardSaid:=
 Claim7.holds_tied_plain_at .later [] _ _ _ _ said (fun _ h=>by cases h) (by kernel_rfl) (fun _ h=>by cases h) yprintBackUpto_row_tie rfl ⟨rfl,rfl⟩ (by kernel_rfl) rfl plain (by kernel_rfl)
end Go.Proofs.YtjnooaljcgkfpaaGreatDoor.yprintBack
