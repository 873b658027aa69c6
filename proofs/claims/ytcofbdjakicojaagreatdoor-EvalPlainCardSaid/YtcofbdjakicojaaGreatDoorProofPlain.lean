/-
  EvalPlain: of any call what the plain host answers is what the document says. The condition: none beyond the row's own (the listed variables are laid as the program's text lays them).
-/
import Derived.Test.YtcofbdjakicojaaGreatDoorLiftP
import Derived.Test.YtcofbdjakicojaaGreatDoorMGreatX
import Derived.Test.YtcofbdjakicojaaGreatDoorLawPlain
namespace Go.Proofs.YtcofbdjakicojaaGreatDoor.pPlain
set_option maxRecDepth 100000
set_option maxHeartbeats 16000000
open Go Go.ChangeShapes Go.WideShapes Go.ChangeAt Go.RowKit
open Go.ChangeMaps (open_string shut_string)
theorem typeCall : 26 < Tryz.prog.types.size := of_decide_eq_true (by kernel_rfl)
theorem readCall : Tryz.prog.readableRec 26 = true := by kernel_rfl
def zeroCall : Value := .agg #[.string ByteArray.empty, .slice none 0 0, .int .i64 0, .int .i64 0]
theorem contract (H : Type) (enc : TypeId × Value → H) (W : World) (base : Nat) (args : Array Value) (ds gs : List (DataW H)) (before : List MemPlace)
  (hval : ∀ (j : Nat) t v, Tryz.f3.params[j]? = some t → args[j]? = some v → Value.okWide Tryz.prog W .any base t v)
  (hW : DataW.Whole enc Tryz.prog Tryz.f3.params.toList Rows.evalPlainSpec.vars false W args.toList ds gs before)
  (hz : (DataW.weightsEach Tryz.prog (Tryz.f3.params.toList ++ (OpenSpec.ofChange Rows.evalPlainSpec).bare.plain.varTypes Tryz.prog) (ds ++ gs)).all (· ≤ reachBytes) = true) (hS : Jc W) (hT : Dq W) (hB : StdB W) :
  Calls Tryz.prog 3 args W fun e W' => ∃ v, e = .returned v ∧ Rows.evalPlainSpec.post enc Tryz.prog Tryz.f3 false true false false W args v W' := by
 have hW' := hW;obtain ⟨p, q, aB, hV, rfl, hfz, hnd⟩ := hW;have hA : DataW.TrodAll enc Tryz.prog W 0 (fun _ => true) true Tryz.f3.params.toList args.toList ds p := aB;rw [Tryz.params3] at hA hval hz;obtain ⟨v0, vs0, d0, ds0, p0, q0, hargs, rfl, rfl, h0, r0⟩ := trodAll_cons hA;obtain ⟨rfl, rfl, rfl⟩ := trodAll_nil r0;obtain rfl : args = #[v0] := (by cases args; simp_all);obtain ⟨rfl, rfl⟩ := trodVars_none hV;have hz0 : ∀ n ∈ d0.weights Tryz.prog 26, n ≤ reachBytes := fun n hn => by
  have := List.all_eq_true.1 hz _ (DataW.weights_mem_each (j := 0) (t := 26) rfl rfl n hn)
  simpa using this
 obtain ⟨nm, l, a, cap, x1, x2, rfl, hr, hnz, aC, hlen⟩ := Uo h0 hz0;have aE := hW'.lt;clear aB;simp only [List.append_nil] at hW' aE;refine (Mu nm l x1 x2 a cap W hr hS hT hB hlen (by unfold reachBytes at hnz; omega) (fun q hq => ⟨by have := (aC q hq).1; unfold reachBytes at this; omega, (aC q hq).2⟩)).mono fun e W' ⟨he, hb⟩ => ?_;subst he;refine ⟨_, rfl, _, _, _, [], p0, [], hW', ?_, ?_, rfl, World.keptBut_mono (fun p hp => ⟨hp, by simpa using hp⟩) (hb.frame (· ∈ p0)), fun h => by cases h⟩
 ·exact trodAll_cons_mk (shut_bool Tryz.underlying4 _) trodAll_mk0
 ·rw [← List.append_nil p0];exact trodAll_cons_mk (back_any readCall typeCall h0 hb (fun x hx => aE x (by simpa using hx))) trodAll_mk0
theorem laid_met (os : Os) : laidMet Tryz.prog Rows.evalPlainRow.laid ((Jz os).forCall (fun _ _ => 0) ⟨#[], #[zeroCall], []⟩).memory :=
 laidMet_of_run' 8 (by kernel_rfl) (by kernel_rfl)
theorem reads (os : Os) {H : Type} (enc : TypeId × Value → H) : ∃ places, DataW.whole enc Tryz.prog ((Jz os).forCall (fun _ _ => 0) ⟨#[], #[zeroCall], []⟩).memory Tryz.f3.params.toList Rows.evalPlainSpec.vars false (#[zeroCall]).toList 8 =
  some ([.agg [.lit (.string []), .nil, .agg [.lit (.int .i64 0), .lit (.int .i64 0)]]], [], places) :=
 ⟨[], by kernel_rfl⟩
theorem lifted (os : Os) (started : os.Started) (H : Type) (enc : TypeId × Value → H) (F : Stop.Interp) :
  ReturnsInHanded {} Tryz.checked os 3 .any ((OpenSpec.ofChange Rows.evalPlainSpec).preRow enc Tryz.prog Tryz.f3 Rows.evalPlainRow.domain false Rows.evalPlainRow.laid) (((OpenSpec.ofChange Rows.evalPlainSpec).at F).post enc Tryz.prog Tryz.f3 false true false false) := by
 obtain ⟨places, hx⟩ := reads os enc;refine returnsInHanded_of_row (C := Tryz.checked) (s := OpenSpec.ofChange Rows.evalPlainSpec) ownKnobNone started (by kernel_rfl) Tryz.func3
  (witness_row_at (enc := enc) (C := Tryz.checked) false (Jz os) #[zeroCall] rfl (by kernel_rfl) (by kernel_rfl) (by kernel_rfl)
   (OpenSpec.preRow_of_cond 8 hx (by kernel_rfl) (fun k hk => by cases hk) (by kernel_rfl) (laid_met os))) ?_
 intro W base args ds gs before hval hW _ _ hz hl hS _;exact contract H enc W base args ds gs before hval hW hz (Oo (l := Rows.evalPlainRow.laid) hl (by simp [Rows.evalPlainRow])) (Oq (l := Rows.evalPlainRow.laid) hl (by simp [Rows.evalPlainRow])) (L4 hS)
theorem said : Rows.EvalPlainSaid :=
 OpenClaim.holds_of_cond 3 Tryz.f3 rfl rfl rfl rfl rfl rfl rfl ⟨rfl, rfl, rfl, rfl, rfl⟩ rfl rfl rfl rfl rfl (by kernel_rfl) Tryz.func3 (by kernel_rfl)
  (of_decide_eq_true (by kernel_rfl)) (by unfold Func.isWrapper; first | (rw [if_pos (by decide +kernel)]; kernel_rfl) | (rw [if_neg (by decide +kernel)]; exact ⟨rfl, rfl⟩))
  (fun os started H enc _ F => by rw [OpenClaim.pre_eq_preRow]; exact lifted os started H enc F)
theorem plain (f : FuncId) (fn : Func) (hf : Tryz.pinned.checked.prog.funcNamed "bloomery/bloomerylaw12.EvalPlain" = some f) (hfn : Tryz.pinned.checked.prog.funcs[f]? = some fn) :
  true = Tryz.pinned.checked.prog.looks [] ∧ ∀ (j : Nat) t, fn.params[j]? = some t → Tryz.pinned.checked.prog.wantsStandIn t = false := by
 obtain rfl : f = 3 := Option.some.inj ((show Tryz.prog.funcNamed "bloomery/bloomerylaw12.EvalPlain" = some 3 by kernel_rfl).symm.trans hf) |>.symm;obtain rfl : fn = Tryz.f3 := (Option.some.inj (Tryz.func3.symm.trans hfn)).symm;refine ⟨by kernel_rfl, fun j t ht => ?_⟩;rw [Tryz.params3] at ht;obtain rfl : t = 26 := (by simpa using Array.mem_of_getElem? ht);exact (show Tryz.prog.wantsStandIn 26 = false by kernel_rfl)
theorem card : Rows.EvalPlainCardSaid :=
 Claim7.holds_tied_plain_at .later [] _ _ _ _ said (fun _ h => by cases h) (by kernel_rfl) (fun _ h => by cases h) evalPlain_row_tie rfl ⟨rfl, rfl⟩ (by kernel_rfl) rfl plain (by kernel_rfl)
end Go.Proofs.YtcofbdjakicojaaGreatDoor.pPlain