/-
  RulesFiles:of any files RULES alone plays a part in the rules that are loaded. The condition:none beyond the row's own (the listed variables are laid as the program's text lays them).
-/
import Derived.Test.YtbcdimjbepigcaaGreatDoorMJoinFi
import Derived.Test.YtbcdimjbepigcaaGreatDoorMGet05
import Derived.Test.YtbcdimjbepigcaaGreatDoorMLawFiles
namespace Go.Proofs.YtbcdimjbepigcaaGreatDoor.pFiles
set_option maxRecDepth 100000
set_option maxHeartbeats 16000000
open Go Go.ChangeShapes Go.WideShapes Go.ChangeAt Go.RowKit
open Go.ChangeMaps (open_string shut_string)
theorem typeFiles:22<Tryz.prog.types.size:=of_decide_eq_true (by kernel_rfl)
theorem readFiles:Tryz.prog.readableRec 22=true:=by kernel_rfl
def zeroFiles:Value:=.slice none 0 0
theorem contract(H)(enc:TypeId×Value->H)(W base args)(ds gs:List (DataW H))(before)(hval:∀(j:Nat) t v,Tryz.f3.params[j]? = some t->args[j]? = some v->Value.okWide Tryz.prog W .any base t v)(hW:DataW.Whole enc Tryz.prog Tryz.f3.params.toList Rows.rulesFilesSpec.vars false W args.toList ds gs before)(hz:(DataW.weightsEach Tryz.prog (Tryz.f3.params.toList++(OpenSpec.ofChange Rows.rulesFilesSpec).bare.plain.varTypes Tryz.prog) (ds++gs)).all (· <= reachBytes)=true)(hS:Ka W)(hT:Et W)(hB:StdB W):
  Calls Tryz.prog 3 args W fun e W'=>∃v,e = .returned v/\Rows.rulesFilesSpec.post enc Tryz.prog Tryz.f3 false true false false W args v W':=by
 have hW':=hW;obtain⟨p,q,aB,hV,rfl,hfz,hnd⟩:=hW;have hA:DataW.TrodAll enc Tryz.prog W 0 (fun _=>true) true Tryz.f3.params.toList args.toList ds p:=aB;rw[Tryz.params3] at hA hval hz;obtain⟨v0,vs0,d0,ds0,p0,q0,hargs,rfl,rfl,h0,r0⟩:=trodAll_cons hA;obtain⟨rfl,rfl,rfl⟩:=trodAll_nil r0;obtain rfl:args=#[v0]:=(by cases args;simp_all);obtain⟨rfl,rfl⟩:=trodVars_none hV;have hz0:∀n∈d0.weights Tryz.prog 22,n<=reachBytes:=fun n hn=>by
  have:=List.all_eq_true.1 hz _ (DataW.weights_mem_each (j:=0) (t:=22) rfl rfl n hn)
  simpa using this
 obtain⟨fs,a,cap,rfl,hr,hlen⟩:=Tm (hval 0 22 v0 rfl rfl) h0 hz0;have aC:=hW'.lt;clear aB;simp only[List.append_nil] at hW' aC;refine(Vp _ fs a cap W hlen hr hS hT hB).mono fun e W' ⟨he,hb⟩=>?_;subst he;refine⟨_,rfl,_,_,_,[],p0,[],hW',?_,?_,rfl,World.keptBut_mono (fun p hp=>⟨hp,by simpa using hp⟩) (hb.frame (· ∈ p0)),fun h=>by cases h⟩
 ·exact trodAll_cons_mk (shut_bool Tryz.underlying4 _) trodAll_mk0
 ·rw[<-List.append_nil p0];exact trodAll_cons_mk (back_any readFiles typeFiles h0 hb (fun x hx=>aC x (by simpa using hx))) trodAll_mk0
theorem laid_met(os):laidMet Tryz.prog Rows.rulesFilesRow.laid ((Lu os).forCall (fun _ _=>0) ⟨#[],#[zeroFiles],[]⟩).memory:=
 laidMet_of_run' 8 (by kernel_rfl) (by kernel_rfl)
theorem reads(os){H}(enc:TypeId×Value->H):∃places,DataW.whole enc Tryz.prog ((Lu os).forCall (fun _ _=>0) ⟨#[],#[zeroFiles],[]⟩).memory Tryz.f3.params.toList Rows.rulesFilesSpec.vars false (#[zeroFiles]).toList 8 =
  some ([.nil],[],places):=
 ⟨[],by kernel_rfl⟩
theorem lifted(os)(started:os.Started)(H)(enc:TypeId×Value->H)(F):
  ReturnsInHanded {} Tryz.checked os 3 .any ((OpenSpec.ofChange Rows.rulesFilesSpec).preRow enc Tryz.prog Tryz.f3 Rows.rulesFilesRow.domain false Rows.rulesFilesRow.laid) (((OpenSpec.ofChange Rows.rulesFilesSpec).at F).post enc Tryz.prog Tryz.f3 false true false false):=by
 obtain⟨places,hx⟩:=reads os enc;refine returnsInHanded_of_row (C:=Tryz.checked) (s:=OpenSpec.ofChange Rows.rulesFilesSpec) ownKnobNone started (by kernel_rfl) Tryz.func3
  (witness_row_at (enc:=enc) (C:=Tryz.checked) false (Lu os) #[zeroFiles] rfl (by kernel_rfl) (by kernel_rfl) (by kernel_rfl)
   (OpenSpec.preRow_of_cond 8 hx (by kernel_rfl) (fun k hk=>by cases hk) (by kernel_rfl) (laid_met os))) ?_
 intro W base args ds gs before hval hW _ _ hz hl hS _;exact contract H enc W base args ds gs before hval hW hz (Qg (l:=Rows.rulesFilesRow.laid) hl (by simp[Rows.rulesFilesRow])) (Qh (l:=Rows.rulesFilesRow.laid) hl (by simp[Rows.rulesFilesRow])) (Nr hS)
theorem said:Rows.RulesFilesSaid:=
 OpenClaim.holds_of_cond 3 Tryz.f3 rfl rfl rfl rfl rfl rfl rfl ⟨rfl,rfl,rfl,rfl,rfl⟩ rfl rfl rfl rfl rfl (by kernel_rfl) Tryz.func3 joined
  (of_decide_eq_true (by kernel_rfl)) (by unfold Func.isWrapper;first|(rw[if_pos (by decide +kernel)];kernel_rfl)|(rw[if_neg (by decide +kernel)];exact⟨rfl,rfl⟩))
  (fun os started H enc _ F=>by rw[OpenClaim.pre_eq_preRow];exact lifted os started H enc F)
theorem plain(f fn)(hf:Tryz.pinned.checked.prog.funcNamed "bloomery/bloomerylaw16.RulesFiles" = some f)(hfn:Tryz.pinned.checked.prog.funcs[f]? = some fn):
  true=Tryz.pinned.checked.prog.looks []/\∀(j:Nat) t,fn.params[j]? = some t->Tryz.pinned.checked.prog.wantsStandIn t=false:=by
 obtain rfl:f=3:=Option.some.inj ((show Tryz.prog.funcNamed "bloomery/bloomerylaw16.RulesFiles" = some 3 by kernel_rfl).symm.trans hf) |>.symm;obtain rfl:fn=Tryz.f3:=(Option.some.inj (Tryz.func3.symm.trans hfn)).symm;refine⟨by kernel_rfl,fun j t ht=>?_⟩;rw[Tryz.params3] at ht;obtain rfl:t=22:=(by simpa using Array.mem_of_getElem? ht);exact(show Tryz.prog.wantsStandIn 22=false by kernel_rfl)
theorem card:Rows.RulesFilesCardSaid:=
 Claim7.holds_tied_plain_at .later [] _ _ _ _ said (fun _ h=>by cases h) (by kernel_rfl) (fun _ h=>by cases h) rulesFiles_row_tie rfl ⟨rfl,rfl⟩ (by kernel_rfl) rfl plain (by kernel_rfl)
end Go.Proofs.YtbcdimjbepigcaaGreatDoor.pFiles