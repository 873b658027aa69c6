/-
  Plain laws of GlobsPick: rising rows of texts; inserting into them; two rising rows of the same texts are the same. No program in sight.
-/
import Derived.Test.YtabobdmgjmgifaaDoorInsert
namespace Go.Proofs.YtabobdmgjmgifaaDoor
open Go Go.RowKit

def Rise (l : List ByteArray) : Prop := l.Pairwise fun x y => x.toList < y.toList
theorem toList_inj {x y : ByteArray} (h : x.toList = y.toList) : x = y := by
  rw [Lib.toList_data, Lib.toList_data] at h; exact bytes_ext h
theorem less_iff {x y : ByteArray} : Op.bytesLess x.toList y.toList = true ↔ x.toList < y.toList := by
  rw [Go.Proofs.bytesLess_eq, decide_eq_true_eq]
theorem lt_of_not {x y : List UInt8} (h : ¬ x < y) (hne : x ≠ y) : y < x := by
  have h1 : y ≤ x := List.not_lt.1 h
  by_cases h2 : y < x
  · exact h2
  · exact absurd (List.le_antisymm (List.not_lt.1 h2) h1) hne

theorem rise_ext {l m : List ByteArray} (hl : Rise l) (hm : Rise m) (h : ∀ x, x ∈ l ↔ x ∈ m) : l = m := by
  induction l generalizing m with
  | nil =>
    cases m with
    | nil => rfl
    | cons y m => exact absurd ((h y).2 (List.mem_cons_self ..)) (by simp)
  | cons x l ih =>
    cases m with
    | nil => exact absurd ((h x).1 (List.mem_cons_self ..)) (by simp)
    | cons y m =>
      obtain ⟨hx, hl'⟩ := List.pairwise_cons.1 hl
      obtain ⟨hy, hm'⟩ := List.pairwise_cons.1 hm
      have exy : x = y := by
        rcases List.mem_cons.1 ((h x).1 (List.mem_cons_self ..)) with e | e
        · exact e
        rcases List.mem_cons.1 ((h y).2 (List.mem_cons_self ..)) with e' | e'
        · exact e'.symm
        exact absurd (List.lt_trans (hy x e) (hx y e')) (List.lt_irrefl _)
      subst exy
      rw [ih hl' hm' ?_]
      intro z
      constructor
      · intro hz
        rcases List.mem_cons.1 ((h z).1 (List.mem_cons_of_mem _ hz)) with rfl | hz'
        · exact absurd (hx z hz) (List.lt_irrefl _)
        · exact hz'
      · intro hz
        rcases List.mem_cons.1 ((h z).2 (List.mem_cons_of_mem _ hz)) with rfl | hz'
        · exact absurd (hy z hz) (List.lt_irrefl _)
        · exact hz'

theorem insL_done (s : ByteArray) (l : List ByteArray) (h : ∀ x ∈ l, s.toList < x.toList) : insL s true l = l := by
  induction l with
  | nil => rfl
  | cons x t ih =>
    have hx := h x (List.mem_cons_self ..)
    have hne : (x.toList == s.toList) = false := by
      rw [beq_eq_false_iff_ne]; intro e; rw [e] at hx; exact List.lt_irrefl _ hx
    rw [insL, hne, Bool.true_or, ih (fun y hy => h y (List.mem_cons_of_mem _ hy))]
    rfl
theorem insL_rise (s : ByteArray) (l : List ByteArray) (hl : Rise l) : Rise (insL s false l) ∧ ∀ x, x ∈ insL s false l ↔ x = s ∨ x ∈ l := by
  induction l with
  | nil => exact ⟨List.pairwise_singleton _ _, fun x => by simp [insL]⟩
  | cons y t ih =>
    obtain ⟨hy, ht⟩ := List.pairwise_cons.1 hl
    obtain ⟨h1, h2⟩ := ih ht
    cases hls : Op.bytesLess y.toList s.toList
    · have hnl : ¬ y.toList < s.toList := by intro h; rw [less_iff.2 h] at hls; cases hls
      by_cases he : y = s
      · subst he
        have e : insL y false (y :: t) = y :: t := by
          rw [insL, hls]
          simp only [Bool.not_false, Bool.and_self, if_true, beq_self_eq_true, Bool.or_true, List.nil_append, List.singleton_append]
          rw [insL_done _ _ hy]
        rw [e]
        exact ⟨hl, fun x => by simp⟩
      · have hne : (y.toList == s.toList) = false := by
          rw [beq_eq_false_iff_ne]; exact fun e => he (toList_inj e)
        have hsy : s.toList < y.toList := lt_of_not hnl (fun e => he (toList_inj e))
        have hst : ∀ x ∈ t, s.toList < x.toList := fun x hx => List.lt_trans hsy (hy x hx)
        have e : insL s false (y :: t) = s :: y :: t := by
          rw [insL, hls, hne]
          simp only [Bool.not_false, Bool.and_self, if_true, Bool.or_true, Bool.false_eq_true, if_false, List.singleton_append]
          rw [insL_done _ _ hst]
        rw [e]
        refine ⟨List.pairwise_cons.2 ⟨?_, hl⟩, fun x => by simp⟩
        intro x hx
        rcases List.mem_cons.1 hx with rfl | hx
        · exact hsy
        · exact hst x hx
    · have hlt := less_iff.1 hls
      have e : insL s false (y :: t) = y :: insL s false t := by
        rw [insL, hls, less_ne hls]; rfl
      rw [e]
      refine ⟨List.pairwise_cons.2 ⟨?_, h1⟩, ?_⟩
      · intro x hx
        rcases (h2 x).1 hx with rfl | hx
        · exact hlt
        · exact hy x hx
      · intro x
        rw [List.mem_cons, h2, List.mem_cons]
        constructor
        · rintro (h | h | h)
          · exact Or.inr (Or.inl h)
          · exact Or.inl h
          · exact Or.inr (Or.inr h)
        · rintro (h | h | h)
          · exact Or.inr (Or.inl h)
          · exact Or.inl h
          · exact Or.inr (Or.inr h)

end Go.Proofs.YtabobdmgjmgifaaDoor
