/-
  Values of the language that came in.
-/
import Derived.Test.YthknljeffpbbmaaGreatDoorOpenDat
import Derived.Test.YthknljeffpbbmaaGreatDoorMEvQ
import Derived.SizedLaws
namespace Go.Proofs.YthknljeffpbbmaaGreatDoor
open Go Go.RowKit

section
variable {H : Type} {enc : TypeId × Value → H} {P : Program} {W : World}
theorem slice_of_trod {α : Type} (f : α → List Dat) (good : α → Prop) {t e : TypeId} (ht : P.underlying t = some (.slice e)) {fuel : Nat} {cs : List Value} {d : DataW H} {ps : List MemPlace}
    (hel : ∀ n us y, n < fuel → DataW.trod enc P W 0 (fun _ => true) true n e us = some y → (∀ k ∈ y.1.weights P e, k ≤ reachBytes) → ∃ v, toDat y.1 = f v ∧ good v)
    (h : DataW.trod enc P W 0 (fun _ => true) true fuel t cs = some (d, ps)) (hw : ∀ k ∈ d.weights P t, k ≤ reachBytes) : ∃ l : List α, toDat d = [.row (l.map f)] ∧ (∀ v ∈ l, good v) ∧ l.length * P.bytesOf e ≤ reachBytes := by
  rcases DataW.trod_slice ht h with ⟨rfl, hx⟩ | ⟨a, len, cap, elems, rest, n, hn, rfl, hx, -, hl, hm, hlen, hl2, -, -⟩
  · cases hx
    exact ⟨[], (by rw [toDat]; rfl), (fun v hv => by cases hv), (by simp)⟩
  · cases hx
    cases hn
    have hw' : ∀ k ∈ ((elems.map (·.1)).length + (rest.map (·.1)).length) * P.bytesOf e :: (DataW.weightsAll P e (elems.map (·.1)) ++ DataW.weightsAll P e (rest.map (·.1))), k ≤ reachBytes := by
      intro k hk
      refine hw k ?_
      rw [DataW.weights, ht]
      exact hk
    have hlenW := hw' _ (List.mem_cons_self ..)
    have hall : ∀ (l : List (DataW H)) y, y ∈ l → ∀ k ∈ y.weights P e, k ∈ DataW.weightsAll P e l := by
      intro l
      induction l with
      | nil => intro y hy; cases hy
      | cons z t ih =>
        intro y hy k hk
        rw [DataW.weightsAll, List.mem_append]
        rcases List.mem_cons.1 hy with rfl | hy
        · exact .inl hk
        · exact .inr (ih y hy k hk)
    have hex : ∀ j : Fin elems.length, ∃ v, toDat elems[j].1 = f v ∧ good v := by
      intro j
      have h1 := hl2 j (by rw [← hlen]; exact j.2)
      cases hcs : W.cells? 0 (a.add (j * P.cellsOf e)) (P.cellsOf e) with
      | none => rw [hcs, List.getElem?_eq_getElem j.2] at h1; cases h1
      | some us =>
        rw [hcs, List.getElem?_eq_getElem j.2] at h1
        exact hel n us _ (Nat.lt_succ_self n) h1 (fun k hk => hw' k (List.mem_cons_of_mem _ (List.mem_append_left _ (hall _ _ (List.mem_map_of_mem (f := (·.1)) (List.getElem_mem j.2)) k hk))))
    obtain ⟨g, hg⟩ := Classical.axiomOfChoice hex
    refine ⟨List.ofFn g, ?_, ?_, ?_⟩
    · rw [toDat, toDatR_map]
      congr 2
      apply List.ext_getElem
      · simp
      · intro i h1 h2
        simp only [List.getElem_map, List.getElem_ofFn]
        exact (hg ⟨i, by simpa using h1⟩).1
    · intro v hv
      obtain ⟨j, rfl⟩ := List.mem_ofFn.1 hv
      exact (hg j).2
    · rw [List.length_ofFn]
      rw [List.length_map] at hlenW
      exact Nat.le_trans (Nat.mul_le_mul_right _ (Nat.le_add_right _ _)) hlenW
theorem str_of_trod {t : TypeId} (ht : P.underlying t = some .string) {fuel : Nat} {cs : List Value} {d : DataW H} {ps : List MemPlace} (h : DataW.trod enc P W 0 (fun _ => true) true fuel t cs = some (d, ps)) (hw : ∀ k ∈ d.weights P t, k ≤ reachBytes) :
    ∃ s : ByteArray, toDat d = [.one (.string s)] ∧ s.size ≤ reachBytes := by
  obtain ⟨s, rfl, hx, -⟩ := DataW.trod_string ht h
  cases hx
  refine ⟨s, by rw [toDat], ?_⟩
  have := hw s.data.toList.length (by simp [DataW.weights])
  rwa [len_data] at this
theorem int_of_trod {q : IntKind} {t : TypeId} (ht : P.underlying t = some (.int q)) {fuel : Nat} {cs : List Value} {d : DataW H} {ps : List MemPlace} (h : DataW.trod enc P W 0 (fun _ => true) true fuel t cs = some (d, ps)) :
    ∃ n : Int, toDat d = [.one (.int q n)] ∧ (Lit.int q n).wf = true := by
  obtain ⟨n, rfl, hx, hw⟩ := DataW.trod_int ht h
  cases hx
  exact ⟨n, by rw [toDat], hw⟩
end
theorem bytesVal : Tryz.prog.bytesOf 37 = 80 := by kernel_rfl
theorem bytesStrE : Tryz.prog.bytesOf 9 = 16 := by kernel_rfl
set_option maxRecDepth 100000 in
/-- A value that came in. -/
theorem val_of_trod {H : Type} {enc : TypeId × Value → H} {W : World} : ∀ (fuel : Nat) (cs : List Value) (d : DataW H) (ps : List MemPlace), DataW.trod enc Tryz.prog W 0 (fun _ => true) true fuel 37 cs = some (d, ps) → (∀ k ∈ d.weights Tryz.prog 37, k ≤ reachBytes) →
    ∃ v : Vl, toDat d = valD v ∧ smallV v := by
  intro fuel
  induction fuel using Nat.strongRecOn with
  | _ fuel ih =>
    intro cs d ps h hw
    obtain ⟨xs, n, rfl, hx, -, hxl, hf⟩ := DataW.trod_struct Tryz.underlying37 h
    cases hx
    match xs, hxl with
    | [y0, y1, y2, y3, y4], _ =>
      have e0 := hf 0 _ rfl
      have e1 := hf 1 _ rfl
      have e2 := hf 2 _ rfl
      have e3 := hf 3 _ rfl
      have e4 := hf 4 _ rfl
      have hwe : ∀ k ∈ DataW.weightsEach Tryz.prog [3, 2, 9, 34, 35] [y0.1, y1.1, y2.1, y3.1, y4.1], k ≤ reachBytes := by
        intro k hk
        refine hw k ?_
        rw [DataW.weights, Tryz.underlying37]
        exact hk
      have hwj := fun (j : Nat) (t : TypeId) (y : DataW H) (h1 : ([3, 2, 9, 34, 35] : List TypeId)[j]? = some t) (h2 : ([y0.1, y1.1, y2.1, y3.1, y4.1] : List (DataW H))[j]? = some y) (k : Nat) (hk : k ∈ y.weights Tryz.prog t) => hwe k (DataW.weights_mem_each h1 h2 k hk)
      obtain ⟨k, h0, -⟩ := int_of_trod Tryz.underlying3 (show DataW.trod enc Tryz.prog W 0 (fun _ => true) true n 3 _ = some (y0.1, y0.2) from e0)
      obtain ⟨m, h1, -⟩ := int_of_trod Tryz.underlying2 (show DataW.trod enc Tryz.prog W 0 (fun _ => true) true n 2 _ = some (y1.1, y1.2) from e1)
      obtain ⟨s, h2, hs⟩ := str_of_trod Tryz.underlying9 (show DataW.trod enc Tryz.prog W 0 (fun _ => true) true n 9 _ = some (y2.1, y2.2) from e2) (hwj 2 _ _ rfl rfl)
      obtain ⟨l, h3, hl, hln⟩ := slice_of_trod valD smallV Tryz.underlying34 (fun n' us y hn' hy hky => ih n' (by omega) us y.1 y.2 hy hky) (show DataW.trod enc Tryz.prog W 0 (fun _ => true) true n 34 _ = some (y3.1, y3.2) from e3) (hwj 3 _ _ rfl rfl)
      obtain ⟨ks, h4, hks, hkn⟩ := slice_of_trod (fun s => [Dat.one (.string s)]) (fun s : ByteArray => s.size ≤ reachBytes) Tryz.underlying35 (fun n' us y hn' hy hky => str_of_trod Tryz.underlying9 (show DataW.trod enc Tryz.prog W 0 (fun _ => true) true n' 9 us = some (y.1, y.2) from hy) hky) (show DataW.trod enc Tryz.prog W 0 (fun _ => true) true n 35 _ = some (y4.1, y4.2) from e4) (hwj 4 _ _ rfl rfl)
      refine ⟨.mk k m s l ks, ?_, ?_⟩
      · rw [toDat]
        simp only [List.map_cons, List.map_nil, toDatC, h0, h1, h2, h3, h4, List.append_nil, List.cons_append, List.nil_append]
        rw [valD, valsD_map]
        rfl
      · rw [bytesVal] at hln
        rw [bytesStrE] at hkn
        rw [smallV]
        have all : ∀ l : List Vl, (∀ v ∈ l, smallV v) → smallVs l := by
          intro l
          induction l with
          | nil => intro _; rw [smallVs]; trivial
          | cons v t ih2 => intro h; rw [smallVs]; exact ⟨h v (List.mem_cons_self ..), ih2 fun x hx => h x (List.mem_cons_of_mem _ hx)⟩
        unfold reachBytes at hs hln hkn hks
        exact ⟨by omega, by omega, by omega, fun x hx => by have := hks x hx; omega, all l hl⟩
end Go.Proofs.YthknljeffpbbmaaGreatDoor
