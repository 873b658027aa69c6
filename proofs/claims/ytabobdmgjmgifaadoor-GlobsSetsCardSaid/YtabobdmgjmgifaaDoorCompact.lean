/-
  Plain law: a sorted row without its doubles rises, and has the same members. No program in sight.
-/
import Derived.Test.YtabobdmgjmgifaaDoorPickPlain
import Derived.Lib.SlicesCompact
namespace Go.Proofs.YtabobdmgjmgifaaDoor
open Go Go.RowKit

theorem compactUpTo_rise (d : Array (List UInt8)) (hs : ∀ i j, i ≤ j → j < d.size → d[i]! ≤ d[j]!) (m : Nat) (hm : m ≤ d.size) :
    (Lib.compactUpTo d m).Pairwise (· < ·) ∧ ∀ x, x ∈ Lib.compactUpTo d m ↔ ∃ j, j < m ∧ d[j]! = x := by
  induction m with
  | zero => exact ⟨by simp [Lib.compactUpTo], fun x => by simp [Lib.compactUpTo]⟩
  | succ m ih =>
    obtain ⟨h1, h2⟩ := ih (by omega)
    rw [Lib.compactUpTo_succ]
    cases hk : Lib.keeps d m
    · have hk' : ¬ (m = 0 ∨ d[m]! ≠ d[m - 1]!) := by simpa [Lib.keeps] using hk
      have hm0 : m ≠ 0 := fun h => hk' (Or.inl h)
      have he : d[m]! = d[m - 1]! := Classical.byContradiction fun h => hk' (Or.inr h)
      refine ⟨by simpa using h1, fun x => ?_⟩
      simp only [Bool.false_eq_true, if_false, List.append_nil]
      rw [h2]
      constructor
      · rintro ⟨j, hj, e⟩; exact ⟨j, by omega, e⟩
      · rintro ⟨j, hj, e⟩
        by_cases hjm : j = m
        · subst hjm; exact ⟨j - 1, by omega, by rw [← he]; exact e⟩
        · exact ⟨j, by omega, e⟩
    · have hk' : m = 0 ∨ d[m]! ≠ d[m - 1]! := by simpa [Lib.keeps] using hk
      simp only [if_true]
      refine ⟨?_, fun x => ?_⟩
      · rw [List.pairwise_append]
        refine ⟨h1, List.pairwise_singleton _ _, ?_⟩
        intro x hx y hy
        rw [List.mem_singleton] at hy
        subst hy
        obtain ⟨j, hj, rfl⟩ := (h2 x).1 hx
        have hm0 : m ≠ 0 := by omega
        have hne : d[m]! ≠ d[m - 1]! := by rcases hk' with h | h; exact absurd h hm0; exact h
        have h3 := hs j (m - 1) (by omega) (by omega)
        have h4 := hs (m - 1) m (by omega) (by omega)
        have h5 : d[m - 1]! < d[m]! := by
          refine lt_of_not ?_ hne
          exact List.not_lt.2 h4
        by_cases h6 : d[j]! < d[m]!
        · exact h6
        · have h7 : d[m]! ≤ d[j]! := List.not_lt.1 h6
          exact absurd h5 (List.not_lt.2 (List.le_trans h7 h3))
      · rw [List.mem_append, h2, List.mem_singleton]
        constructor
        · rintro (⟨j, hj, e⟩ | rfl)
          · exact ⟨j, by omega, e⟩
          · exact ⟨m, by omega, rfl⟩
        · rintro ⟨j, hj, e⟩
          by_cases hjm : j = m
          · subst hjm; exact Or.inr e.symm
          · exact Or.inl ⟨j, by omega, e⟩

theorem compact_rise (l : List (List UInt8)) : (Lib.compact (l.mergeSort fun x y => decide (x ≤ y))).Pairwise (· < ·) ∧ ∀ x, x ∈ Lib.compact (l.mergeSort fun x y => decide (x ≤ y)) ↔ x ∈ l := by
  have hp : (l.mergeSort fun x y => decide (x ≤ y)).Pairwise fun x y => decide (x ≤ y) = true :=
    List.pairwise_mergeSort (fun a b c h1 h2 => by simp only [decide_eq_true_eq] at *; exact List.le_trans h1 h2)
      (fun a b => by simp only [Bool.or_eq_true, decide_eq_true_eq]; exact List.le_total a b) l
  obtain ⟨h1, h2⟩ := compactUpTo_rise (l.mergeSort fun x y => decide (x ≤ y)).toArray (by
    intro i j hij hj
    rw [List.size_toArray] at hj
    rw [getElem!_pos _ i (by rw [List.size_toArray]; omega), getElem!_pos _ j (by rw [List.size_toArray]; omega)]
    simp only [List.getElem_toArray]
    by_cases he : i = j
    · subst he; exact List.le_refl _
    · have := List.pairwise_iff_getElem.1 hp i j (by omega) (by omega) (by omega)
      simpa using this) _ (by rw [List.size_toArray]; exact Nat.le_refl _)
  refine ⟨h1, fun x => ?_⟩
  rw [show x ∈ Lib.compact (l.mergeSort fun x y => decide (x ≤ y)) ↔ _ from h2 x, ← List.mem_mergeSort (le := fun x y => decide (x ≤ y)) (l := l)]
  rw [List.mem_iff_getElem]
  constructor
  · rintro ⟨j, hj, e⟩
    refine ⟨j, hj, ?_⟩
    rw [getElem!_pos _ j (by rw [List.size_toArray]; omega)] at e
    simpa using e
  · rintro ⟨j, hj, e⟩
    refine ⟨j, hj, ?_⟩
    rw [getElem!_pos _ j (by rw [List.size_toArray]; omega)]
    simpa using e
end Go.Proofs.YtabobdmgjmgifaaDoor
