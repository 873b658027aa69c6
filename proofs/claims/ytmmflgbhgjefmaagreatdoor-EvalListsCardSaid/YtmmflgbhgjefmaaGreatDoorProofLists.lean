/-
  EvalLists: what is joined, made lines of, sorted, and counted by the plain host is what it is of the texts. The condition: none beyond the row's own (the listed variables are laid as the program's text lays them).
-/
import Derived.Test.YtmmflgbhgjefmaaGreatDoorLiftE
import Derived.Test.YtmmflgbhgjefmaaGreatDoorLawLists
namespace Go.Proofs.YtmmflgbhgjefmaaGreatDoor.pLists
open Go Go.ChangeShapes Go.WideShapes Go.ChangeAt Go.RowKit
open Go.ChangeMaps (open_string shut_string)

theorem cellsStr : Tryz.prog.cellsOf 9 = 1 := by kernel_rfl
theorem typesStrs : 29 < Tryz.prog.types.size := of_decide_eq_true (by kernel_rfl)
theorem readStrs : Tryz.prog.readableRec 29 = true := by kernel_rfl
theorem bytesStr : Tryz.prog.bytesOf 9 = 16 := by kernel_rfl
theorem laidOutAll : laidOutB Tryz.prog = true := by kernel_rfl
theorem lt_of_cell {w : World} {a : Addr} {v : Value} (h : w.cell? a = some v) : a.spot = none := by
  unfold World.cell? at h
  split at h
  · split at h
    · cases h
    · rename_i hs; simpa using hs
  · cases h
theorem weights_strs {H : Type} (P : Program) (e : TypeId) : ∀ (l : List ByteArray) (s : ByteArray), s ∈ l → s.size ∈ DataW.weightsAll (H := H) P e (strs l)
  | x :: t, s, h => by
    show s.size ∈ DataW.weights P e (.lit (.string x.data.toList)) ++ DataW.weightsAll P e (strs t)
    rw [List.mem_append]
    rcases List.mem_cons.1 h with rfl | h
    · left
      simp [DataW.weights]
    · exact .inr (weights_strs P e t s h)
set_option maxRecDepth 100000 in
theorem open_strsZ {H : Type} {enc : TypeId × Value → H} {W : World} {base : Nat} {v : Value} {d : DataW H} {p : List MemPlace} (hv : Value.okWide Tryz.prog W .any base 29 v)
    (h : DataW.Trod enc Tryz.prog W 0 (fun _ => true) true 29 v d p) (hz : ∀ n ∈ d.weights Tryz.prog 29, n ≤ reachBytes) : ∃ a cap l, v = .slice a l.length cap ∧ StrsAt W a l ∧ l.length ≤ 140737488351232 ∧ ∀ x ∈ l, x.size ≤ 140737488351232 := by
  obtain ⟨a0, len, cap, rfl⟩ := okWide_slice Tryz.underlying29 hv
  obtain ⟨fuel, hf⟩ := h
  rcases open_strings Tryz.underlying29 Tryz.underlying9 cellsStr hf with ⟨hcs, hx⟩ | ⟨a, len', cap', ss, hcs, _, hl, hm, hzz, hx, hcell, hsz⟩
  · simp [Value.cells] at hcs
    obtain ⟨rfl, rfl, rfl⟩ := hcs
    exact ⟨none, 0, [], rfl, StrsAt.nil _ _, Nat.zero_le _, fun x hx => by cases hx⟩
  · simp [Value.cells] at hcs
    obtain ⟨rfl, rfl, rfl⟩ := hcs
    simp only [if_true] at hzz
    simp only [Prod.mk.injEq] at hx
    obtain ⟨rfl, -⟩ := hx
    have hw : ∀ n ∈ ((strs (H := H) (ss.take len)).length + (strs (H := H) (ss.drop len)).length) * 16 :: (DataW.weightsAll Tryz.prog 9 (strs (H := H) (ss.take len)) ++ DataW.weightsAll Tryz.prog 9 (strs (H := H) (ss.drop len))), n ≤ reachBytes := by
      intro n hn
      refine hz n ?_
      rw [DataW.weights, Tryz.underlying29]
      simp only [bytesStr]
      exact hn
    have hlen := hw _ (List.mem_cons_self ..)
    have hstr : ∀ x ∈ ss.take len, x.size ≤ reachBytes := fun x hx => hw _ (List.mem_cons_of_mem _ (List.mem_append_left _ (weights_strs _ _ _ x hx)))
    have hsl : (strs (H := H) (ss.take len)).length = len := by simp [strs]; omega
    rw [hsl] at hlen
    unfold reachBytes at hlen hstr
    obtain ⟨b, off, spot⟩ := a
    refine ⟨_, _, ss.take len, by rw [List.length_take, Nat.min_eq_left (by omega)], ?_, by rw [List.length_take]; omega, fun x hx => by have := hstr x hx; omega⟩
    intro j X hX
    have hj : j < len := by
      have := (List.getElem?_eq_some_iff.1 hX).1
      simp at this
      omega
    have hspot : spot = none := by simpa [Addr.add] using lt_of_cell (hcell 0 (by omega))
    subst hspot
    refine ⟨b, off, rfl, ?_⟩
    have hX' : ss.getD j ByteArray.empty = X := by
      rw [List.getElem?_take_of_lt hj] at hX
      simp [List.getD, hX]
    rw [← hX']
    have := hcell j (by omega)
    by_cases h0 : j = 0
    · subst h0; simpa [Addr.add] using this
    · simpa [Addr.add, h0] using this
theorem back_strs {H : Type} {enc : TypeId × Value → H} {W W' : World} {v : Value} {d : DataW H} {p : List MemPlace} (h : DataW.Trod enc Tryz.prog W 0 (fun _ => true) true 29 v d p) (hb : Below W.heap.size W W') (hlt : ∀ x ∈ p, x.block < W.heap.size) :
    DataW.Trod enc Tryz.prog W' 0 (fun b => decide (b < W.heap.size)) true 29 v d p := Below.trod laidOutAll readStrs typesStrs h hb hlt

set_option maxRecDepth 100000 in
theorem contract (H : Type) (enc : TypeId × Value → H) (W : World) (base : Nat) (args : Array Value) (ds gs : List (DataW H)) (before : List MemPlace)
    (hval : ∀ (j : Nat) t v, Tryz.f4.params[j]? = some t → args[j]? = some v → Value.okWide Tryz.prog W .any base t v)
    (hW : DataW.Whole enc Tryz.prog Tryz.f4.params.toList Rows.evalListsSpec.vars false W args.toList ds gs before)
    (hz : (DataW.weightsEach Tryz.prog (Tryz.f4.params.toList ++ (OpenSpec.ofChange Rows.evalListsSpec).bare.plain.varTypes Tryz.prog) (ds ++ gs)).all (· ≤ reachBytes) = true) (hS : StdE W) :
    Calls Tryz.prog 4 args W fun e W' => ∃ v, e = .returned v ∧ Rows.evalListsSpec.post enc Tryz.prog Tryz.f4 false true false false W args v W' := by
  have hW' := hW
  obtain ⟨p, q, hA0, hV, rfl, hfz, hnd⟩ := hW
  have hA : DataW.TrodAll enc Tryz.prog W 0 (fun _ => true) true Tryz.f4.params.toList args.toList ds p := hA0
  rw [Tryz.params4] at hA hval hz
  obtain ⟨v0, vs0, d0, ds0, p0, q0, hargs, rfl, rfl, h0, r0⟩ := trodAll_cons hA
  obtain ⟨v1, vs1, d1, ds1, p1, q1, rfl, rfl, rfl, h1, r1⟩ := trodAll_cons r0
  obtain ⟨rfl, rfl, rfl⟩ := trodAll_nil r1
  obtain rfl : args = #[v0, v1] := by cases args; simp_all
  obtain ⟨rfl, rfl⟩ := trodVars_none hV
  have hz0 : ∀ n ∈ d0.weights Tryz.prog 29, n ≤ reachBytes := fun n hn => by
    have := List.all_eq_true.1 hz _ (DataW.weights_mem_each (j := 0) (t := 29) rfl rfl n hn)
    simpa using this
  obtain ⟨a0, c0, l0, rfl, hs0, hm0, hmz⟩ := open_strsZ (hval 0 29 v0 rfl rfl) h0 hz0
  obtain ⟨s1, rfl, rfl, rfl, hs1⟩ := open_string Tryz.underlying9 (hval 1 9 v1 rfl rfl) h1
  have hz1 : s1.size ≤ 140737488351232 := by
    have := List.all_eq_true.1 hz _ (DataW.weights_mem_each (j := 1) (t := 9) (d := .lit (.string s1.data.toList)) rfl rfl s1.data.toList.length (by simp [DataW.weights]))
    rw [len_data] at this
    have h2 : s1.size ≤ reachBytes := by simpa using this
    unfold reachBytes at h2
    omega
  have hlt := hW'.lt
  clear hA0
  simp only [List.append_nil] at hW' hlt
  refine (lists_any a0 c0 l0 s1 W hm0 hmz hz1 hs0 hS).mono fun e W' ⟨he, hb⟩ => ?_
  subst he
  refine ⟨_, rfl, _, _, _, [], p0 ++ ([] ++ []), [], hW', ?_, ?_, rfl, World.keptBut_mono (fun p hp => ⟨hp, by simpa using hp⟩) (hb.frame (· ∈ p0)), fun h => by cases h⟩
  · exact trodAll_cons_mk (shut_bool Tryz.underlying4 _) trodAll_mk0
  · exact trodAll_cons_mk (back_strs h0 hb (fun x hx => hlt x (by simpa using hx))) (trodAll_cons_mk (shut_string Tryz.underlying9 hs1) trodAll_mk0)

theorem laid_met (os : Os) : laidMet Tryz.prog Rows.evalListsRow.laid ((laidWorld os).forCall (fun _ _ => 0) ⟨#[], #[.slice none 0 0, .string ByteArray.empty], []⟩).memory :=
  laidMet_of_run' 8 (by kernel_rfl) (by kernel_rfl)
theorem reads (os : Os) {H : Type} (enc : TypeId × Value → H) : ∃ places, DataW.whole enc Tryz.prog ((laidWorld os).forCall (fun _ _ => 0) ⟨#[], #[.slice none 0 0, .string ByteArray.empty], []⟩).memory Tryz.f4.params.toList Rows.evalListsSpec.vars false (#[Value.slice none 0 0, .string ByteArray.empty]).toList 8 = some ([.nil, .lit (.string [])], [], places) :=
  ⟨[], by kernel_rfl⟩

set_option maxRecDepth 100000 in
theorem lifted (os : Os) (started : os.Started) (H : Type) (enc : TypeId × Value → H) (F : Stop.Interp) :
    ReturnsInHanded {} Tryz.checked os 4 .any ((OpenSpec.ofChange Rows.evalListsSpec).preRow enc Tryz.prog Tryz.f4 Rows.evalListsRow.domain false Rows.evalListsRow.laid) (((OpenSpec.ofChange Rows.evalListsSpec).at F).post enc Tryz.prog Tryz.f4 false true false false) := by
  obtain ⟨places, hx⟩ := reads os enc
  refine returnsInHanded_of_row (C := Tryz.checked) (s := OpenSpec.ofChange Rows.evalListsSpec) ownKnobNone started (by kernel_rfl) Tryz.func4
    (witness_row_at (enc := enc) (C := Tryz.checked) false (laidWorld os) #[.slice none 0 0, .string ByteArray.empty] rfl (by kernel_rfl) (by kernel_rfl) (by kernel_rfl)
      (OpenSpec.preRow_of_cond 8 hx (by kernel_rfl) (fun k hk => by cases hk) (by kernel_rfl) (laid_met os))) ?_
  intro W base args ds gs before hval hW _ _ hz hl _ _
  exact contract H enc W base args ds gs before hval hW hz (stdE_of_laid (l := Rows.evalListsRow.laid) hl (by simp [Rows.evalListsRow]))

theorem said : Rows.EvalListsSaid :=
  OpenClaim.holds_of_cond 4 Tryz.f4 rfl rfl rfl rfl rfl rfl rfl ⟨rfl, rfl, rfl, rfl, rfl⟩ rfl rfl rfl rfl rfl (by kernel_rfl) Tryz.func4 (by kernel_rfl)
    (of_decide_eq_true (by kernel_rfl)) (by unfold Func.isWrapper; first | (rw [if_pos (by decide +kernel)]; kernel_rfl) | (rw [if_neg (by decide +kernel)]; exact ⟨rfl, rfl⟩))
    (fun os started H enc _ F => by rw [OpenClaim.pre_eq_preRow]; exact lifted os started H enc F)

theorem plain (f : FuncId) (fn : Func) (hf : Tryz.pinned.checked.prog.funcNamed "bloomery/bloomerylaw12.EvalLists" = some f) (hfn : Tryz.pinned.checked.prog.funcs[f]? = some fn) :
    true = Tryz.pinned.checked.prog.looks [] ∧ ∀ (j : Nat) t, fn.params[j]? = some t → Tryz.pinned.checked.prog.wantsStandIn t = false := by
  obtain rfl : f = 4 := Option.some.inj ((show Tryz.prog.funcNamed "bloomery/bloomerylaw12.EvalLists" = some 4 by kernel_rfl).symm.trans hf) |>.symm
  obtain rfl : fn = Tryz.f4 := (Option.some.inj (Tryz.func4.symm.trans hfn)).symm
  refine ⟨by kernel_rfl, fun j t ht => ?_⟩
  rw [Tryz.params4] at ht
  rcases (by simpa using Array.mem_of_getElem? ht : t = 29 ∨ t = 9) with rfl | rfl
  · exact (show Tryz.prog.wantsStandIn 29 = false by kernel_rfl)
  · exact (show Tryz.prog.wantsStandIn 9 = false by kernel_rfl)

theorem card : Rows.EvalListsCardSaid :=
  Claim7.holds_tied_plain_at .later [] _ _ _ _ said (fun _ h => by cases h) (by kernel_rfl) (fun _ h => by cases h) evalLists_row_tie rfl ⟨rfl, rfl⟩ (by kernel_rfl) rfl plain (by kernel_rfl)
end Go.Proofs.YtmmflgbhgjefmaaGreatDoor.pLists
