/-
  RulesFits: each value of a target fits its attribute's type; one that wasn't given is the default; the rule is found by its name. The condition: none beyond the row's own (the listed variables are laid as the program's text lays them).
-/
import Derived.Test.YthknljeffpbbmaaGreatDoorJoinF
import Derived.Test.YthknljeffpbbmaaGreatDoorMOpenRuleB
import Derived.Test.YthknljeffpbbmaaGreatDoorFixLF
import Derived.Test.YthknljeffpbbmaaGreatDoorMLawFits
namespace Go.Proofs.YthknljeffpbbmaaGreatDoor.pFits
open Go Go.ChangeShapes Go.WideShapes Go.ChangeAt Go.RowKit
open Go.ChangeMaps (open_string shut_string)

theorem typeRule : 27 < Tryz.prog.types.size := of_decide_eq_true (by kernel_rfl)
theorem readRule : Tryz.prog.readableRec 27 = true := by kernel_rfl
theorem typeDecl : 30 < Tryz.prog.types.size := of_decide_eq_true (by kernel_rfl)
theorem readDecl : Tryz.prog.readableRec 30 = true := by kernel_rfl
def zeroRule : Value := .agg #[.string ByteArray.empty, .slice none 0 0, .slice none 0 0, .int .i64 0, .int .i64 0]
def zeroDecl : Value := .agg #[.string ByteArray.empty, .slice none 0 0, .int .i64 0, .int .i64 0]

set_option maxRecDepth 100000 in
theorem contract (H : Type) (enc : TypeId × Value → H) (W : World) (base : Nat) (args : Array Value) (ds gs : List (DataW H)) (before : List MemPlace)
    (hval : ∀ (j : Nat) t v, Tryz.f4.params[j]? = some t → args[j]? = some v → Value.okWide Tryz.prog W .any base t v)
    (hW : DataW.Whole enc Tryz.prog Tryz.f4.params.toList Rows.rulesFitsSpec.vars false W args.toList ds gs before)
    (hz : (DataW.weightsEach Tryz.prog (Tryz.f4.params.toList ++ (OpenSpec.ofChange Rows.rulesFitsSpec).bare.plain.varTypes Tryz.prog) (ds ++ gs)).all (· ≤ reachBytes) = true) (hS : StdE W) (hB : StdB W) :
    Calls Tryz.prog 4 args W fun e W' => ∃ v, e = .returned v ∧ Rows.rulesFitsSpec.post enc Tryz.prog Tryz.f4 false true false false W args v W' := by
  have hW' := hW
  obtain ⟨p, q, hA0, hV, rfl, hfz, hnd⟩ := hW
  have hA : DataW.TrodAll enc Tryz.prog W 0 (fun _ => true) true Tryz.f4.params.toList args.toList ds p := hA0
  rw [Tryz.params4] at hA hval hz
  obtain ⟨v0, vs0, d0, ds0, p0, q0, hargs, rfl, rfl, h0, r0⟩ := trodAll_cons hA
  obtain ⟨v1, vs1, d1, ds1, p1, q1, rfl, rfl, rfl, h1, r1⟩ := trodAll_cons r0
  obtain ⟨v2, vs2, d2, ds2, p2, q2, rfl, rfl, rfl, h2, r2⟩ := trodAll_cons r1
  obtain ⟨rfl, rfl, rfl⟩ := trodAll_nil r2
  obtain rfl : args = #[v0, v1, v2] := by cases args; simp_all
  obtain ⟨rfl, rfl⟩ := trodVars_none hV
  have hzj := fun (j : Nat) (t : TypeId) (y : DataW H) (g1 : ([27, 30, 9] : List TypeId)[j]? = some t) (g2 : ([d0, d1, d2] : List (DataW H))[j]? = some y) (n : Nat) (hn : n ∈ y.weights Tryz.prog t) => (by
    have := List.all_eq_true.1 hz n (DataW.weights_mem_each (j := j) (t := t) (d := y) (by
      rw [List.getElem?_append_left (by have := (List.getElem?_eq_some_iff.1 g1).1; simpa using this)]
      exact g1) (by
      rw [List.getElem?_append_left (by have := (List.getElem?_eq_some_iff.1 g2).1; simpa using this)]
      exact g2) n hn)
    simpa using this : n ≤ reachBytes)
  obtain ⟨rn, l, body, aA, aB, cA, cB, x1, x2, rfl, hrA, hrB, hcA, hrz, hlx, hlen, hfn, hfl⟩ := open_rule h0 (hzj 0 _ _ rfl rfl)
  obtain ⟨dr, la, aD, cD, x3, x4, rfl, hrD, hdz, hax, hal⟩ := open_decl h1 (hzj 1 _ _ rfl rfl)
  obtain ⟨s1, rfl, rfl, rfl, hs1⟩ := open_string Tryz.underlying9 (hval 2 9 v2 rfl rfl) h2
  have hz1 : s1.size ≤ 9223372036854775807 := by
    have := hzj 2 9 _ rfl rfl s1.data.toList.length (by simp [DataW.weights])
    rw [len_data] at this
    unfold reachBytes at this
    omega
  have hlt := hW'.lt
  clear hA0
  simp only [List.append_nil] at hW' hlt
  refine (fits16_any fixed_ok rn dr l body la s1 (fun b => b < W.heap.size) aA aB aD cA cB cD x1 x2 x3 x4 W hS hB (by unfold reachBytes at hrz; omega) hlen hal hcA (fun x hx => by have := (hlx x hx).1; unfold reachBytes at this; omega) (fun x hx => by have := (hax x hx).1; unfold reachBytes at this; omega) (fun x hx => (hlx x hx).2) (fun x hx => (hax x hx).2) hz1 (fun _ h => h) hrA hrB hfn hfl hrD).mono fun e W' ⟨he, hb⟩ => ?_
  subst he
  refine ⟨_, rfl, _, _, _, [], p0 ++ (p1 ++ ([] ++ [])), [], hW', ?_, ?_, rfl, World.keptBut_mono (fun p hp => ⟨hp, by simpa using hp⟩) (hb.frame (· ∈ p0 ++ p1)), fun h => by cases h⟩
  · exact trodAll_cons_mk (shut_bool Tryz.underlying4 _) trodAll_mk0
  · exact trodAll_cons_mk (back_any readRule typeRule h0 hb (fun x hx => hlt x (by simp [hx]))) (trodAll_cons_mk (back_any readDecl typeDecl h1 hb (fun x hx => hlt x (by simp [hx]))) (trodAll_cons_mk (shut_string Tryz.underlying9 hs1) trodAll_mk0))

theorem laid_met (os : Os) : laidMet Tryz.prog Rows.rulesFitsRow.laid ((laidWorld os).forCall (fun _ _ => 0) ⟨#[], #[zeroRule, zeroDecl, .string ByteArray.empty], []⟩).memory :=
  laidMet_of_run' 8 (by kernel_rfl) (by kernel_rfl)
theorem reads (os : Os) {H : Type} (enc : TypeId × Value → H) : ∃ places, DataW.whole enc Tryz.prog ((laidWorld os).forCall (fun _ _ => 0) ⟨#[], #[zeroRule, zeroDecl, .string ByteArray.empty], []⟩).memory Tryz.f4.params.toList Rows.rulesFitsSpec.vars false (#[zeroRule, zeroDecl, Value.string ByteArray.empty]).toList 8 =
    some ([.agg [.lit (.string []), .nil, .nil, .agg [.lit (.int .i64 0), .lit (.int .i64 0)]], .agg [.lit (.string []), .nil, .agg [.lit (.int .i64 0), .lit (.int .i64 0)]], .lit (.string [])], [], places) :=
  ⟨[], by kernel_rfl⟩

set_option maxRecDepth 100000 in
theorem lifted (os : Os) (started : os.Started) (H : Type) (enc : TypeId × Value → H) (F : Stop.Interp) :
    ReturnsInHanded {} Tryz.checked os 4 .any ((OpenSpec.ofChange Rows.rulesFitsSpec).preRow enc Tryz.prog Tryz.f4 Rows.rulesFitsRow.domain false Rows.rulesFitsRow.laid) (((OpenSpec.ofChange Rows.rulesFitsSpec).at F).post enc Tryz.prog Tryz.f4 false true false false) := by
  obtain ⟨places, hx⟩ := reads os enc
  refine returnsInHanded_of_row (C := Tryz.checked) (s := OpenSpec.ofChange Rows.rulesFitsSpec) ownKnobNone started (by kernel_rfl) Tryz.func4
    (witness_row_at (enc := enc) (C := Tryz.checked) false (laidWorld os) #[zeroRule, zeroDecl, .string ByteArray.empty] rfl (by kernel_rfl) (by kernel_rfl) (by kernel_rfl)
      (OpenSpec.preRow_of_cond 8 hx (by kernel_rfl) (fun k hk => by cases hk) (by kernel_rfl) (laid_met os))) ?_
  intro W base args ds gs before hval hW _ _ hz hl hS _
  exact contract H enc W base args ds gs before hval hW hz (stdE_of_laid (l := Rows.rulesFitsRow.laid) hl (by simp [Rows.rulesFitsRow])) (stdB_of_shaped hS)

theorem said : Rows.RulesFitsSaid :=
  OpenClaim.holds_of_cond 4 Tryz.f4 rfl rfl rfl rfl rfl rfl rfl ⟨rfl, rfl, rfl, rfl, rfl⟩ rfl rfl rfl rfl rfl (by kernel_rfl) Tryz.func4 joined
    (of_decide_eq_true (by kernel_rfl)) (by unfold Func.isWrapper; first | (rw [if_pos (by decide +kernel)]; kernel_rfl) | (rw [if_neg (by decide +kernel)]; exact ⟨rfl, rfl⟩))
    (fun os started H enc _ F => by rw [OpenClaim.pre_eq_preRow]; exact lifted os started H enc F)

theorem plain (f : FuncId) (fn : Func) (hf : Tryz.pinned.checked.prog.funcNamed "bloomery/bloomerylaw16.RulesFits" = some f) (hfn : Tryz.pinned.checked.prog.funcs[f]? = some fn) :
    true = Tryz.pinned.checked.prog.looks [] ∧ ∀ (j : Nat) t, fn.params[j]? = some t → Tryz.pinned.checked.prog.wantsStandIn t = false := by
  obtain rfl : f = 4 := Option.some.inj ((show Tryz.prog.funcNamed "bloomery/bloomerylaw16.RulesFits" = some 4 by kernel_rfl).symm.trans hf) |>.symm
  obtain rfl : fn = Tryz.f4 := (Option.some.inj (Tryz.func4.symm.trans hfn)).symm
  refine ⟨by kernel_rfl, fun j t ht => ?_⟩
  rw [Tryz.params4] at ht
  rcases (by simpa using Array.mem_of_getElem? ht : t = 27 ∨ t = 30 ∨ t = 9) with rfl | rfl | rfl
  · exact (show Tryz.prog.wantsStandIn 27 = false by kernel_rfl)
  · exact (show Tryz.prog.wantsStandIn 30 = false by kernel_rfl)
  · exact (show Tryz.prog.wantsStandIn 9 = false by kernel_rfl)

theorem card : Rows.RulesFitsCardSaid :=
  Claim7.holds_tied_plain_at .later [] _ _ _ _ said (fun _ h => by cases h) (by kernel_rfl) (fun _ h => by cases h) rulesFits_row_tie rfl ⟨rfl, rfl⟩ (by kernel_rfl) rfl plain (by kernel_rfl)
end Go.Proofs.YthknljeffpbbmaaGreatDoor.pFits
