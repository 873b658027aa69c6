/-
  EvalSteps:with more steps the same comes of a run,once they are enough;with fewer ErrSteps;a file that is printed comes to the same. The condition:none beyond the row's own (the listed variables are laid as the program's text lays them).
-/
import Derived.Test.YtlbbbapiklendaaGreatDoorMJoinSt
import Derived.Test.YtlbbbapiklendaaGreatDoorMSame12
import Derived.Test.YtlbbbapiklendaaGreatDoorMLawSteps
namespace Go.Proofs.YtlbbbapiklendaaGreatDoor.pSteps
set_option maxRecDepth 100000
set_option maxHeartbeats 16000000
open Go Go.ChangeShapes Go.WideShapes Go.ChangeAt Go.RowKit
open Go.ChangeMaps (open_string shut_string)
theorem contract(H)(enc:TypeId×Value->H)(W base args)(ds gs:List (DataW H))(before)(hval:∀(j:Nat) t v,Tryz.f3.params[j]? = some t->args[j]? = some v->Value.okWide Tryz.prog W .any base t v)(hW:DataW.Whole enc Tryz.prog Tryz.f3.params.toList Rows.evalStepsSpec.vars false W args.toList ds gs before)(hz:(DataW.weightsEach Tryz.prog (Tryz.f3.params.toList++(OpenSpec.ofChange Rows.evalStepsSpec).bare.plain.varTypes Tryz.prog) (ds++gs)).all (· <= reachBytes)=true)(hS:Lg W)(hT:E3 W)(hB:StdB W):
  Calls Tryz.prog 3 args W fun e W'=>∃v,e = .returned v/\Rows.evalStepsSpec.post enc Tryz.prog Tryz.f3 false true false false W args v W':=by
 have hW':=hW;obtain⟨p,q,aA,hV,rfl,hfz,hnd⟩:=hW;have hA:DataW.TrodAll enc Tryz.prog W 0 (fun _=>true) true Tryz.f3.params.toList args.toList ds p:=aA;rw[Tryz.params3] at hA hval hz;obtain⟨v0,vs0,d0,ds0,p0,q0,hargs,rfl,rfl,h0,r0⟩:=trodAll_cons hA;obtain⟨v1,vs1,d1,ds1,p1,q1,rfl,rfl,rfl,h1,r1⟩:=trodAll_cons r0;obtain⟨rfl,rfl,rfl⟩:=trodAll_nil r1;obtain rfl:args=#[v0,v1]:=(by cases args;simp_all);obtain⟨rfl,rfl⟩:=trodVars_none hV;obtain⟨t,rfl,rfl,rfl,hs0⟩:=open_string Tryz.underlying9 (hval 0 9 v0 rfl rfl) h0;obtain⟨d,rfl,rfl,rfl,aB⟩:=open_int Tryz.underlying5 (hval 1 5 v1 rfl rfl) h1;have hd:IntKind.u8.min<=d/\d<=IntKind.u8.max:=(by simpa[Lit.wf] using aB);have hz0:t.size<=140737488351232:=by
  have:=List.all_eq_true.1 hz _ (DataW.weights_mem_each (j:=0) (t:=9) (d:=.lit (.string t.data.toList)) rfl rfl t.data.toList.length (by simp[DataW.weights]));rw[Ai] at this;have h2:t.size<=reachBytes:=(by simpa using this);unfold reachBytes at h2;omega
 have hlt:=hW'.lt;clear aA;simp only[List.append_nil] at hW' hlt;refine(Qu t d hd W (by omega) hS hT hB).mono fun e W' ⟨he,hb⟩=>?_;subst he;refine⟨_,rfl,_,_,_,[],[],[],hW',?_,?_,rfl,World.keptBut_mono (fun p hp=>⟨hp,by simp at hp⟩) (hb.frame (· ∈ [])),fun h=>by cases h⟩
 ·exact trodAll_cons_mk (shut_bool Tryz.underlying4 _) trodAll_mk0
 ·exact trodAll_cons_mk (shut_string Tryz.underlying9 hs0) (trodAll_cons_mk (shut_int Tryz.underlying5 aB) trodAll_mk0)
theorem laid_met(os):laidMet Tryz.prog Rows.evalStepsRow.laid ((Nn os).forCall (fun _ _=>0) ⟨#[],#[Value.string ByteArray.empty,Value.int .u8 0],[]⟩).memory:=
 laidMet_of_run' 8 (by kernel_rfl) (by kernel_rfl)
theorem reads(os){H}(enc:TypeId×Value->H):∃places,DataW.whole enc Tryz.prog ((Nn os).forCall (fun _ _=>0) ⟨#[],#[Value.string ByteArray.empty,Value.int .u8 0],[]⟩).memory Tryz.f3.params.toList Rows.evalStepsSpec.vars false (#[Value.string ByteArray.empty,Value.int .u8 0]).toList 8 =
  some ([.lit (.string []),.lit (.int .u8 0)],[],places):=
 ⟨[],by kernel_rfl⟩
theorem lifted(os)(started:os.Started)(H)(enc:TypeId×Value->H)(F):
  ReturnsInHanded {} Tryz.checked os 3 .any ((OpenSpec.ofChange Rows.evalStepsSpec).preRow enc Tryz.prog Tryz.f3 Rows.evalStepsRow.domain false Rows.evalStepsRow.laid) (((OpenSpec.ofChange Rows.evalStepsSpec).at F).post enc Tryz.prog Tryz.f3 false true false false):=by
 obtain⟨places,hx⟩:=reads os enc;refine returnsInHanded_of_row (C:=Tryz.checked) (s:=OpenSpec.ofChange Rows.evalStepsSpec) ownKnobNone started (by kernel_rfl) Tryz.func3
  (witness_row_at (enc:=enc) (C:=Tryz.checked) false (Nn os) #[Value.string ByteArray.empty,Value.int .u8 0] rfl (by kernel_rfl) (by kernel_rfl) (by kernel_rfl)
   (OpenSpec.preRow_of_cond 8 hx (by kernel_rfl) (fun k hk=>by cases hk) (by kernel_rfl) (laid_met os))) ?_
 intro W base args ds gs before hval hW _ _ hz hl hS _;exact contract H enc W base args ds gs before hval hW hz (Sy (l:=Rows.evalStepsRow.laid) hl (by simp[Rows.evalStepsRow])) (Sz (l:=Rows.evalStepsRow.laid) hl (by simp[Rows.evalStepsRow])) (Pt hS)
theorem said:Rows.EvalStepsSaid:=
 OpenClaim.holds_of_cond 3 Tryz.f3 rfl rfl rfl rfl rfl rfl rfl ⟨rfl,rfl,rfl,rfl,rfl⟩ rfl rfl rfl rfl rfl (by kernel_rfl) Tryz.func3 joined
  (of_decide_eq_true (by kernel_rfl)) (by unfold Func.isWrapper;first|(rw[if_pos (by decide +kernel)];kernel_rfl)|(rw[if_neg (by decide +kernel)];exact⟨rfl,rfl⟩))
  (fun os started H enc _ F=>by rw[OpenClaim.pre_eq_preRow];exact lifted os started H enc F)
theorem plain(f fn)(hf:Tryz.pinned.checked.prog.funcNamed "bloomery/bloomerylaw12.EvalSteps" = some f)(hfn:Tryz.pinned.checked.prog.funcs[f]? = some fn):
  true=Tryz.pinned.checked.prog.looks []/\∀(j:Nat) t,fn.params[j]? = some t->Tryz.pinned.checked.prog.wantsStandIn t=false:=by
 obtain rfl:f=3:=Option.some.inj ((show Tryz.prog.funcNamed "bloomery/bloomerylaw12.EvalSteps" = some 3 by kernel_rfl).symm.trans hf) |>.symm;obtain rfl:fn=Tryz.f3:=(Option.some.inj (Tryz.func3.symm.trans hfn)).symm;refine⟨by kernel_rfl,fun j t ht=>?_⟩;rw[Tryz.params3] at ht;rcases (by simpa using Array.mem_of_getElem? ht:t=9\/t=5) with rfl|rfl
 ·exact(show Tryz.prog.wantsStandIn 9=false by kernel_rfl)
 ·exact(show Tryz.prog.wantsStandIn 5=false by kernel_rfl)
theorem card:Rows.EvalStepsCardSaid:=
 Claim7.holds_tied_plain_at .later [] _ _ _ _ said (fun _ h=>by cases h) (by kernel_rfl) (fun _ h=>by cases h) evalSteps_row_tie rfl ⟨rfl,rfl⟩ (by kernel_rfl) rfl plain (by kernel_rfl)
end Go.Proofs.YtlbbbapiklendaaGreatDoor.pSteps