/-
  Plain law: a text cut at a sign. No program in sight.
-/
import Derived.Lib.Bytealg
import Derived.Lib.SplitLaws
namespace Go.Proofs.YthknljeffpbbmaaGreatDoor

/-- A text's pieces between the signs c. -/
def cutAt (c : UInt8) : List UInt8 → List (List UInt8)
  | [] => [[]]
  | x :: t => if x = c then [] :: cutAt c t else (x :: (cutAt c t).headD []) :: (cutAt c t).tail

theorem cutAt_ne (c : UInt8) (s : List UInt8) : cutAt c s ≠ [] := by
  cases s with
  | nil => simp [cutAt]
  | cons x t => unfold cutAt; split <;> simp
theorem cutAt_head_tail (c : UInt8) (s : List UInt8) : (cutAt c s).headD [] :: (cutAt c s).tail = cutAt c s := by
  cases h : cutAt c s with
  | nil => exact absurd h (cutAt_ne c s)
  | cons a l => rfl
theorem cutAt_none (c : UInt8) (s : List UInt8) (h : c ∉ s) : cutAt c s = [s] := by
  induction s with
  | nil => rfl
  | cons x t ih =>
    simp only [List.mem_cons, not_or] at h
    unfold cutAt
    rw [if_neg (fun e => h.1 e.symm), ih h.2]; rfl
theorem cutAt_hit (c : UInt8) (a b : List UInt8) (h : c ∉ a) : cutAt c (a ++ c :: b) = a :: cutAt c b := by
  induction a with
  | nil => simp [cutAt]
  | cons x t ih =>
    simp only [List.mem_cons, not_or] at h
    have e : cutAt c ((x :: t) ++ c :: b) = (x :: (cutAt c (t ++ c :: b)).headD []) :: (cutAt c (t ++ c :: b)).tail := by
      rw [List.cons_append, cutAt, if_neg (fun e => h.1 e.symm)]
    rw [e, ih h.2]; rfl
theorem cutAt_length (c : UInt8) (s : List UInt8) : (cutAt c s).length = s.count c + 1 := by
  induction s with
  | nil => rfl
  | cons x t ih =>
    unfold cutAt
    split
    · rename_i h; subst h; simp [ih]
    · rename_i h
      have := congrArg List.length (cutAt_head_tail c t)
      simp only [List.length_cons] at this ⊢
      rw [this, ih, List.count_cons_of_ne h]
theorem cutAt_free (c : UInt8) (s : List UInt8) : ∀ p ∈ cutAt c s, c ∉ p := by
  induction s with
  | nil => intro p hp; simp [cutAt] at hp; subst hp; simp
  | cons x t ih =>
    intro p hp
    unfold cutAt at hp
    split at hp
    · rcases List.mem_cons.1 hp with rfl | hp
      · simp
      · exact ih p hp
    · rename_i hx
      rw [← cutAt_head_tail c t] at ih
      rcases List.mem_cons.1 hp with rfl | hp
      · simp only [List.mem_cons, not_or]
        exact ⟨fun e => hx e.symm, ih _ (List.mem_cons_self ..)⟩
      · exact ih p (List.mem_cons_of_mem _ hp)

/-- Where the first sign stands. -/
theorem indexByte_hit {s : List UInt8} {c : UInt8} {i : Nat} (h : Lib.indexByte s c = i) : i < s.length ∧ s[i]? = some c ∧ c ∉ s.take i := by
  induction s generalizing i with
  | nil => simp [Lib.indexByte] at h
  | cons x t ih =>
    unfold Lib.indexByte at h
    by_cases hx : x = c
    · subst hx; simp at h; obtain rfl : i = 0 := by omega
      simp
    · rw [if_neg (by simpa using hx)] at h
      by_cases hm : Lib.indexByte t c = -1
      · rw [if_pos (by simpa using hm)] at h; omega
      · rw [if_neg (by simpa using hm)] at h
        have hg := Lib.indexByte_ge t c
        obtain ⟨k, hk⟩ : ∃ k : Nat, Lib.indexByte t c = k := ⟨(Lib.indexByte t c).toNat, by omega⟩
        obtain rfl : i = k + 1 := by omega
        obtain ⟨h1, h2, h3⟩ := ih hk
        refine ⟨by simp; omega, by simpa using h2, ?_⟩
        simp only [List.take_succ_cons, List.mem_cons, not_or]
        exact ⟨fun e => hx e.symm, h3⟩
theorem indexByte_miss {s : List UInt8} {c : UInt8} (h : Lib.indexByte s c = -1) : c ∉ s := by
  induction s with
  | nil => simp
  | cons x t ih =>
    unfold Lib.indexByte at h
    by_cases hx : x = c
    · subst hx; simp at h
    · rw [if_neg (by simpa using hx)] at h
      by_cases hm : Lib.indexByte t c = -1
      · simp only [List.mem_cons, not_or]; exact ⟨fun e => hx e.symm, ih hm⟩
      · rw [if_neg (by simpa using hm)] at h
        have hg := Lib.indexByte_ge t c
        omega
theorem cutAt_indexByte {s : List UInt8} {c : UInt8} {i : Nat} (h : Lib.indexByte s c = i) : cutAt c s = s.take i :: cutAt c (s.drop (i + 1)) := by
  obtain ⟨h1, h2, h3⟩ := indexByte_hit h
  have hs : s = s.take i ++ c :: s.drop (i + 1) := by
    obtain ⟨h4, h5⟩ := List.getElem?_eq_some_iff.1 h2
    rw [← h5, ← List.drop_eq_getElem_cons h4, List.take_append_drop]
  rw [congrArg (cutAt c) hs]
  exact cutAt_hit _ _ _ h3
theorem cutAt_indexByte_miss {s : List UInt8} {c : UInt8} (h : Lib.indexByte s c = -1) : cutAt c s = [s] := cutAt_none _ _ (indexByte_miss h)

end Go.Proofs.YthknljeffpbbmaaGreatDoor
