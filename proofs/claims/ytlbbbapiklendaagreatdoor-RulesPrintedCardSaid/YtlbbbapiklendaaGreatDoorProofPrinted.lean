/-
  RulesPrinted:any file of rules,read and printed by layer 10,loads to the same rules,but for places,or to the same error. The condition:none beyond the row's own (the listed variables are laid as the program's text lays them).
-/
import Derived.Test.YtlbbbapiklendaaGreatDoorMJoinPr
import Derived.Test.YtlbbbapiklendaaGreatDoorLawPrinted
namespace Go.Proofs.YtlbbbapiklendaaGreatDoor.pPrinted
set_option maxRecDepth 100000
set_option maxHeartbeats 16000000
open Go Go.ChangeShapes Go.WideShapes Go.ChangeAt Go.RowKit
open Go.ChangeMaps (open_string shut_string)
theorem contract(H:Type)(enc:TypeId×Value->H)(W:World)(base:Nat)(args:Array Value)(ds gs:List (DataW H))(before:List MemPlace)
  (hval:∀(j:Nat) t v,Tryz.f4.params[j]? = some t->args[j]? = some v->Value.okWide Tryz.prog W .any base t v)
  (hW:DataW.Whole enc Tryz.prog Tryz.f4.params.toList Rows.rulesPrintedSpec.vars false W args.toList ds gs before)
  (hz:(DataW.weightsEach Tryz.prog (Tryz.f4.params.toList++(OpenSpec.ofChange Rows.rulesPrintedSpec).bare.plain.varTypes Tryz.prog) (ds++gs)).all (· <= reachBytes)=true) (hS:Lt W) (hT:Em W) (hB:StdB W):
  Calls Tryz.prog 4 args W fun e W'=>∃v,e = .returned v/\Rows.rulesPrintedSpec.post enc Tryz.prog Tryz.f4 false true false false W args v W':=by
 have hW':=hW;obtain⟨p,q,aA,hV,rfl,hfz,hnd⟩:=hW;have hA:DataW.TrodAll enc Tryz.prog W 0 (fun _=>true) true Tryz.f4.params.toList args.toList ds p:=aA;rw[Tryz.params4] at hA hval hz;obtain⟨v0,vs0,d0,ds0,p0,q0,hargs,rfl,rfl,h0,r0⟩:=trodAll_cons hA;obtain⟨rfl,rfl,rfl⟩:=trodAll_nil r0;obtain rfl:args=#[v0]:=(by cases args;simp_all);obtain⟨rfl,rfl⟩:=trodVars_none hV;obtain⟨t,rfl,rfl,rfl,hs0⟩:=open_string Tryz.underlying9 (hval 0 9 v0 rfl rfl) h0;have hz0:t.size<=140737488351232:=by
  have:=List.all_eq_true.1 hz _ (DataW.weights_mem_each (j:=0) (t:=9) (d:=.lit (.string t.data.toList)) rfl rfl t.data.toList.length (by simp[DataW.weights]));rw[Al] at this;have h2:t.size<=reachBytes:=(by simpa using this);unfold reachBytes at h2;omega
 have hlt:=hW'.lt;clear aA;simp only[List.append_nil] at hW' hlt;refine(Vb t W (by omega) hS hT hB).mono fun e W' ⟨he,hb⟩=>?_;subst he;refine⟨_,rfl,_,_,_,[],[],[],hW',?_,?_,rfl,World.keptBut_mono (fun p hp=>⟨hp,by simp at hp⟩) (hb.frame (· ∈ [])),fun h=>by cases h⟩
 ·exact trodAll_cons_mk (shut_bool Tryz.underlying4 _) trodAll_mk0
 ·exact trodAll_cons_mk (shut_string Tryz.underlying9 hs0) trodAll_mk0
theorem laid_met(os:Os):laidMet Tryz.prog Rows.rulesPrintedRow.laid ((N3 os).forCall (fun _ _=>0) ⟨#[],#[Value.string ByteArray.empty],[]⟩).memory:=
 laidMet_of_run' 8 (by kernel_rfl) (by kernel_rfl)
theorem reads(os:Os){H:Type}(enc:TypeId×Value->H):∃places,DataW.whole enc Tryz.prog ((N3 os).forCall (fun _ _=>0) ⟨#[],#[Value.string ByteArray.empty],[]⟩).memory Tryz.f4.params.toList Rows.rulesPrintedSpec.vars false (#[Value.string ByteArray.empty]).toList 8 =
  some ([.lit (.string [])],[],places):=
 ⟨[],by kernel_rfl⟩
theorem lifted(os:Os)(started:os.Started)(H:Type)(enc:TypeId×Value->H)(F:Stop.Interp):
  ReturnsInHanded {} Tryz.checked os 4 .any ((OpenSpec.ofChange Rows.rulesPrintedSpec).preRow enc Tryz.prog Tryz.f4 Rows.rulesPrintedRow.domain false Rows.rulesPrintedRow.laid) (((OpenSpec.ofChange Rows.rulesPrintedSpec).at F).post enc Tryz.prog Tryz.f4 false true false false):=by
 obtain⟨places,hx⟩:=reads os enc;refine returnsInHanded_of_row (C:=Tryz.checked) (s:=OpenSpec.ofChange Rows.rulesPrintedSpec) ownKnobNone started (by kernel_rfl) Tryz.func4
  (witness_row_at (enc:=enc) (C:=Tryz.checked) false (N3 os) #[Value.string ByteArray.empty] rfl (by kernel_rfl) (by kernel_rfl) (by kernel_rfl)
   (OpenSpec.preRow_of_cond 8 hx (by kernel_rfl) (fun k hk=>by cases hk) (by kernel_rfl) (laid_met os))) ?_
 intro W base args ds gs before hval hW _ _ hz hl hS _;exact contract H enc W base args ds gs before hval hW hz (Tm (l:=Rows.rulesPrintedRow.laid) hl (by simp[Rows.rulesPrintedRow])) (Tn (l:=Rows.rulesPrintedRow.laid) hl (by simp[Rows.rulesPrintedRow])) (Qa hS)
theorem said:Rows.RulesPrintedSaid:=
 OpenClaim.holds_of_cond 4 Tryz.f4 rfl rfl rfl rfl rfl rfl rfl ⟨rfl,rfl,rfl,rfl,rfl⟩ rfl rfl rfl rfl rfl (by kernel_rfl) Tryz.func4 joined
  (of_decide_eq_true (by kernel_rfl)) (by unfold Func.isWrapper;first|(rw[if_pos (by decide +kernel)];kernel_rfl)|(rw[if_neg (by decide +kernel)];exact⟨rfl,rfl⟩))
  (fun os started H enc _ F=>by rw[OpenClaim.pre_eq_preRow];exact lifted os started H enc F)
theorem plain(f:FuncId)(fn:Func)(hf:Tryz.pinned.checked.prog.funcNamed "bloomery/bloomerylaw16.RulesPrinted" = some f)(hfn:Tryz.pinned.checked.prog.funcs[f]? = some fn):
  true=Tryz.pinned.checked.prog.looks []/\∀(j:Nat) t,fn.params[j]? = some t->Tryz.pinned.checked.prog.wantsStandIn t=false:=by
 obtain rfl:f=4:=Option.some.inj ((show Tryz.prog.funcNamed "bloomery/bloomerylaw16.RulesPrinted" = some 4 by kernel_rfl).symm.trans hf) |>.symm;obtain rfl:fn=Tryz.f4:=(Option.some.inj (Tryz.func4.symm.trans hfn)).symm;refine⟨by kernel_rfl,fun j t ht=>?_⟩;rw[Tryz.params4] at ht;obtain rfl:t=9:=(by simpa using Array.mem_of_getElem? ht);exact(show Tryz.prog.wantsStandIn 9=false by kernel_rfl)
theorem card:Rows.RulesPrintedCardSaid:=
 Claim7.holds_tied_plain_at .later [] _ _ _ _ said (fun _ h=>by cases h) (by kernel_rfl) (fun _ h=>by cases h) rulesPrinted_row_tie rfl ⟨rfl,rfl⟩ (by kernel_rfl) rfl plain (by kernel_rfl)
end Go.Proofs.YtlbbbapiklendaaGreatDoor.pPrinted