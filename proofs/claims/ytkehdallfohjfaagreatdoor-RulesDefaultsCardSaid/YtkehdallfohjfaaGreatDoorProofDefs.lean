/-
  RulesDefaults:a value,written as layer 11 prints it,as a parameter's default,is the default that is loaded. The condition:none beyond the row's own (the listed variables are laid as the program's text lays them).
-/
import Derived.Test.YtkehdallfohjfaaGreatDoorMJoinD
import Derived.Test.YtkehdallfohjfaaGreatDoorMSame11
import Derived.Test.YtkehdallfohjfaaGreatDoorLawDefs
namespace Go.Proofs.YtkehdallfohjfaaGreatDoor.pDefaults
set_option maxRecDepth 100000
set_option maxHeartbeats 16000000
open Go Go.ChangeShapes Go.WideShapes Go.ChangeAt Go.RowKit
open Go.ChangeMaps (open_string shut_string)
theorem typeVal:25<Tryz.prog.types.size:=of_decide_eq_true (by kernel_rfl)
theorem readVal:Tryz.prog.readableRec 25=true:=by kernel_rfl
def zeroVal:Value:=.agg #[.int .i64 0,.int .i64 0,.string ByteArray.empty,.slice none 0 0,.slice none 0 0]
theorem contract(H)(enc:TypeId×Value->H)(W base args)(ds gs:List (DataW H))(before)(hval:∀(j:Nat) t v,Tryz.f3.params[j]? = some t->args[j]? = some v->Value.okWide Tryz.prog W .any base t v)(hW:DataW.Whole enc Tryz.prog Tryz.f3.params.toList Rows.rulesDefaultsSpec.vars false W args.toList ds gs before)(hz:(DataW.weightsEach Tryz.prog (Tryz.f3.params.toList++(OpenSpec.ofChange Rows.rulesDefaultsSpec).bare.plain.varTypes Tryz.prog) (ds++gs)).all (· <= reachBytes)=true)(hS:Ir W)(hT:Ea W)(hB:Gj W):
  Calls Tryz.prog 3 args W fun e W'=>∃v,e = .returned v/\Rows.rulesDefaultsSpec.post enc Tryz.prog Tryz.f3 false true false false W args v W':=by
 have hW':=hW;obtain⟨p,q,aA,hV,rfl,hfz,hnd⟩:=hW;have hA:DataW.TrodAll enc Tryz.prog W 0 (fun _=>true) true Tryz.f3.params.toList args.toList ds p:=aA;rw[Tryz.params3] at hA hval hz;obtain⟨v0,vs0,d0,ds0,p0,q0,hargs,rfl,rfl,h0,r0⟩:=trodAll_cons hA;obtain⟨rfl,rfl,rfl⟩:=trodAll_nil r0;obtain rfl:args=#[v0]:=(by cases args;simp_all);obtain⟨rfl,rfl⟩:=trodVars_none hV;have hz0:∀n∈d0.weights Tryz.prog 25,n<=reachBytes:=fun n hn=>by
  have:=List.all_eq_true.1 hz _ (DataW.weights_mem_each (j:=0) (t:=25) rfl rfl n hn)
  simpa using this
 obtain⟨k,n,s,l,ks,a1,c1,a2,c2,rfl,hsm,hr1,hr2⟩:=Qq h0 hz0;have aB:=hW'.lt;clear aA;simp only[List.append_nil] at hW' aB;refine(Nl k n s l ks hsm _ a1 c1 a2 c2 W (fun _ h=>h) hr1 hr2 hS hT hB).mono fun e W' ⟨he,hb⟩=>?_;subst he;refine⟨_,rfl,_,_,_,[],p0,[],hW',?_,?_,rfl,World.keptBut_mono (fun p hp=>⟨hp,by simpa using hp⟩) (hb.frame (· ∈ p0)),fun h=>by cases h⟩
 ·exact trodAll_cons_mk (shut_bool Tryz.underlying4 _) trodAll_mk0
 ·rw[<-List.append_nil p0];exact trodAll_cons_mk (back_any readVal typeVal h0 hb (fun x hx=>aB x (by simpa using hx))) trodAll_mk0
theorem laid_met(os):laidMet Tryz.prog Rows.rulesDefaultsRow.laid ((Ji os).forCall (fun _ _=>0) ⟨#[],#[zeroVal],[]⟩).memory:=
 laidMet_of_run' 8 (by kernel_rfl) (by kernel_rfl)
theorem reads(os){H}(enc:TypeId×Value->H):∃places,DataW.whole enc Tryz.prog ((Ji os).forCall (fun _ _=>0) ⟨#[],#[zeroVal],[]⟩).memory Tryz.f3.params.toList Rows.rulesDefaultsSpec.vars false (#[zeroVal]).toList 8 =
  some ([.agg [.lit (.int .i64 0),.lit (.int .i64 0),.lit (.string []),.nil,.nil]],[],places):=
 ⟨[],by kernel_rfl⟩
theorem lifted(os)(started:os.Started)(H)(enc:TypeId×Value->H)(F):
  ReturnsInHanded {} Tryz.checked os 3 .any ((OpenSpec.ofChange Rows.rulesDefaultsSpec).preRow enc Tryz.prog Tryz.f3 Rows.rulesDefaultsRow.domain false Rows.rulesDefaultsRow.laid) (((OpenSpec.ofChange Rows.rulesDefaultsSpec).at F).post enc Tryz.prog Tryz.f3 false true false false):=by
 obtain⟨places,hx⟩:=reads os enc;refine returnsInHanded_of_row (C:=Tryz.checked) (s:=OpenSpec.ofChange Rows.rulesDefaultsSpec) ownKnobNone started (by kernel_rfl) Tryz.func3
  (witness_row_at (enc:=enc) (C:=Tryz.checked) false (Ji os) #[zeroVal] rfl (by kernel_rfl) (by kernel_rfl) (by kernel_rfl)
   (OpenSpec.preRow_of_cond 8 hx (by kernel_rfl) (fun k hk=>by cases hk) (by kernel_rfl) (laid_met os))) ?_
 intro W base args ds gs before hval hW _ _ hz hl hS _;exact contract H enc W base args ds gs before hval hW hz (Nn (l:=Rows.rulesDefaultsRow.laid) hl (by simp[Rows.rulesDefaultsRow])) (Np (l:=Rows.rulesDefaultsRow.laid) hl (by simp[Rows.rulesDefaultsRow])) (Le hS)
theorem said:Rows.RulesDefaultsSaid:=
 OpenClaim.holds_of_cond 3 Tryz.f3 rfl rfl rfl rfl rfl rfl rfl ⟨rfl,rfl,rfl,rfl,rfl⟩ rfl rfl rfl rfl rfl (by kernel_rfl) Tryz.func3 joined
  (of_decide_eq_true (by kernel_rfl)) (by unfold Func.isWrapper;first|(rw[if_pos (by decide +kernel)];kernel_rfl)|(rw[if_neg (by decide +kernel)];exact⟨rfl,rfl⟩))
  (fun os started H enc _ F=>by rw[OpenClaim.pre_eq_preRow];exact lifted os started H enc F)
theorem plain(f fn)(hf:Tryz.pinned.checked.prog.funcNamed "bloomery/bloomerylaw16.RulesDefaults" = some f)(hfn:Tryz.pinned.checked.prog.funcs[f]? = some fn):
  true=Tryz.pinned.checked.prog.looks []/\∀(j:Nat) t,fn.params[j]? = some t->Tryz.pinned.checked.prog.wantsStandIn t=false:=by
 obtain rfl:f=3:=Option.some.inj ((show Tryz.prog.funcNamed "bloomery/bloomerylaw16.RulesDefaults" = some 3 by kernel_rfl).symm.trans hf) |>.symm;obtain rfl:fn=Tryz.f3:=(Option.some.inj (Tryz.func3.symm.trans hfn)).symm;refine⟨by kernel_rfl,fun j t ht=>?_⟩;rw[Tryz.params3] at ht;obtain rfl:t=25:=(by simpa using Array.mem_of_getElem? ht);exact(show Tryz.prog.wantsStandIn 25=false by kernel_rfl)
theorem card:Rows.RulesDefaultsCardSaid:=
 Claim7.holds_tied_plain_at .later [] _ _ _ _ said (fun _ h=>by cases h) (by kernel_rfl) (fun _ h=>by cases h) rulesDefaults_row_tie rfl ⟨rfl,rfl⟩ (by kernel_rfl) rfl plain (by kernel_rfl)
end Go.Proofs.YtkehdallfohjfaaGreatDoor.pDefaults