/-
  Plain laws of GlobsFixed: a path is a pattern, which matches itself alone; what a pattern matches begins with what is fixed of it; two stars match each path. No program in sight.
-/
import Derived.Test.YtabobdmgjmgifaaDoorMatch
import Derived.Test.YtabobdmgjmgifaaDoorFixed
namespace Go.Proofs.YtabobdmgjmgifaaDoor
open Go Go.RowKit

theorem deal_nil_of_ne {ps : List Bs} (h : ps ≠ []) : deal ps [] = false := by
  induction ps with
  | nil => exact absurd rfl h
  | cons x ps ih =>
    simp only [deal]
    split
    · split
      · rfl
      · rename_i h2; simp only [suff]; exact ih h2
    · rfl
theorem cutAt_cons_hit (c : UInt8) (t : Bs) : cutAt c (c :: t) = [] :: cutAt c t := by simp [cutAt]
theorem cutAt_cons_miss {c x : UInt8} (h : x ≠ c) (t : Bs) : ∃ a l, cutAt c t = a :: l ∧ cutAt c (x :: t) = (x :: a) :: l := by
  refine ⟨(cutAt c t).headD [], (cutAt c t).tail, (cutAt_head_tail c t).symm, ?_⟩
  rw [cutAt, if_neg h]
theorem cutAt_nil_inv {c : UInt8} {s : Bs} {l : List Bs} (h : cutAt c s = [] :: l) : (s = [] ∧ l = []) ∨ ∃ t, s = c :: t ∧ cutAt c t = l := by
  cases s with
  | nil => left; simp [cutAt] at h; exact ⟨rfl, h⟩
  | cons x t =>
    by_cases hx : x = c
    · subst hx; rw [cutAt_cons_hit, List.cons.injEq] at h; right; exact ⟨t, rfl, h.2⟩
    · obtain ⟨a, m, h1, h2⟩ := cutAt_cons_miss hx t
      rw [h2] at h; simp at h
theorem cutAt_cons_inv {c y : UInt8} {s n : Bs} {l : List Bs} (h : cutAt c s = (y :: n) :: l) : ∃ t, s = y :: t ∧ cutAt c t = n :: l := by
  cases s with
  | nil => simp [cutAt] at h
  | cons x t =>
    by_cases hx : x = c
    · subst hx; rw [cutAt_cons_hit] at h; simp at h
    · obtain ⟨a, m, h1, h2⟩ := cutAt_cons_miss hx t
      rw [h2] at h
      simp only [List.cons.injEq] at h
      obtain ⟨⟨rfl, rfl⟩, rfl⟩ := h
      exact ⟨t, rfl, h1⟩
theorem cutAt_inj {c : UInt8} {s t : Bs} (h : cutAt c s = cutAt c t) : s = t := by
  induction s generalizing t with
  | nil =>
    rw [show cutAt c [] = [[]] from rfl] at h
    rcases cutAt_nil_inv h.symm with ⟨rfl, -⟩ | ⟨t', rfl, h2⟩
    · rfl
    · exact absurd h2 (cutAt_ne _ _)
  | cons x s ih =>
    by_cases hx : x = c
    · subst hx
      rw [cutAt_cons_hit] at h
      rcases cutAt_nil_inv h.symm with ⟨rfl, h2⟩ | ⟨t', rfl, h2⟩
      · exact absurd h2 (cutAt_ne _ _)
      · rw [ih h2.symm]
    · obtain ⟨a, m, h1, h2⟩ := cutAt_cons_miss hx s
      rw [h2] at h
      obtain ⟨t', rfl, h3⟩ := cutAt_cons_inv h.symm
      rw [ih (h1.trans h3.symm)]
theorem noWild_ne {y : UInt8} (h : noWild y = true) : y ≠ 42 ∧ y ≠ 63 := by
  unfold noWild at h; simpa using h

/-- WHAT A PATTERN MATCHES BEGINS WITH WHAT IS FIXED OF IT. -/
theorem deal_fixed (p s : Bs) (h : deal (cutAt 47 p) (cutAt 47 s) = true) : p.takeWhile noWild <+: s := by
  induction p generalizing s with
  | nil => exact List.nil_prefix
  | cons y t ih =>
    cases hy : noWild y
    · rw [List.takeWhile_cons_of_neg (by simp [hy])]; exact List.nil_prefix
    rw [List.takeWhile_cons_of_pos hy]
    obtain ⟨h42, h63⟩ := noWild_ne hy
    by_cases h47 : y = 47
    · subst h47
      rw [cutAt_cons_hit] at h
      simp only [deal] at h
      rw [if_neg (by simp)] at h
      cases hs : cutAt 47 s with
      | nil => exact absurd hs (cutAt_ne _ _)
      | cons n l =>
        rw [hs] at h
        simp only [wild, Bool.and_eq_true, List.isEmpty_iff] at h
        obtain ⟨rfl, h2⟩ := h
        rcases cutAt_nil_inv hs with ⟨rfl, rfl⟩ | ⟨s', rfl, hs'⟩
        · rw [deal_nil_of_ne (cutAt_ne _ _)] at h2; cases h2
        · rw [← hs'] at h2
          exact List.prefix_cons_inj 47 |>.2 (ih s' h2)
    · obtain ⟨x, ps, h1, h2⟩ := cutAt_cons_miss h47 t
      rw [h2] at h
      simp only [deal] at h
      rw [if_neg (by simp [h42])] at h
      cases hs : cutAt 47 s with
      | nil => exact absurd hs (cutAt_ne _ _)
      | cons n l =>
        rw [hs] at h
        simp only [Bool.and_eq_true] at h
        obtain ⟨hw, hd⟩ := h
        cases n with
        | nil => rw [wild_chr_nil y h42] at hw; cases hw
        | cons c n =>
          rw [wild_chr y h42, Bool.and_eq_true] at hw
          obtain ⟨ho, hw⟩ := hw
          have hyc : y = c := by
            unfold okc at ho
            simpa [h63] using ho
          subst hyc
          obtain ⟨s', rfl, hs'⟩ := cutAt_cons_inv hs
          refine List.prefix_cons_inj y |>.2 ?_
          by_cases hx : x = [42, 42]
          · subst hx
            obtain ⟨t', rfl, -⟩ := cutAt_cons_inv h1
            rw [List.takeWhile_cons_of_neg (by decide)]; exact List.nil_prefix
          · refine ih s' ?_
            rw [h1, hs']
            simp only [deal]
            rw [if_neg hx, hw, hd]; rfl
theorem gmatch_fixed {p s : Bs} (h : gmatch p s = true) : gfixed p <+: s := by
  unfold gmatch at h
  simp only [Bool.and_eq_true] at h
  unfold gfixed
  rw [if_pos h.1.1]
  exact deal_fixed p s h.2

/-! A path is a pattern. -/
theorem psign_ne {x : UInt8} (h : psign x.toNat = true) : x ≠ 42 ∧ x ≠ 63 := by
  constructor <;> (rintro rfl; revert h; decide)
theorem psign_noWild {x : UInt8} (h : psign x.toNat = true) : noWild x = true := by
  obtain ⟨h1, h2⟩ := psign_ne h
  unfold noWild; simp [h1, h2]
theorem gsigns_of_signs {l : Bs} (h : allSigns l = true) : gsigns l = true := by
  induction l with
  | nil => rfl
  | cons x t ih =>
    unfold allSigns at h
    rw [List.all_cons, Bool.and_eq_true] at h
    unfold gsigns
    rw [h.1, ih h.2]
    have : Lib.hasPrefix (x :: t) [42, 42] = false := by
      have h1 := (psign_ne h.1).1
      have h2 := (psign_ne h.1).1.symm
      simp [Lib.hasPrefix, List.isPrefixOf, h1, h2]
    rw [this]; rfl
theorem partOk_sgn {l : Bs} (h : partOk l = true) : allSigns l = true := by
  unfold partOk at h; simp only [Bool.and_eq_true] at h; exact h.2
theorem gpart_of_partOk {l : Bs} (h : partOk l = true) : gpart l = true := by
  have hs := gsigns_of_signs (partOk_sgn h)
  unfold partOk at h
  simp only [Bool.and_eq_true, Bool.not_eq_true', decide_eq_true_eq, List.isEmpty_eq_false_iff] at h
  obtain ⟨⟨⟨⟨h1, h2⟩, h3⟩, h4⟩, -⟩ := h
  have hl : 1 ≤ l.length := by cases l with | nil => exact absurd rfl h1 | cons x t => simp
  unfold gpart
  rw [hs, h3, h4, decide_eq_true hl, decide_eq_true h2]
  simp
theorem pathOk_all {l : Bs} (h : pathOk l = true) : ∀ x ∈ cutAt 47 l, partOk x = true := by
  unfold pathOk at h; simp only [Bool.and_eq_true, List.all_eq_true] at h; exact h.2
theorem gmay_of_pathOk {l : Bs} (h : pathOk l = true) : gmay l = true := by
  unfold gmay
  rw [decide_eq_true (pathOk_len h), Bool.true_and, List.all_eq_true]
  exact fun x hx => gpart_of_partOk (pathOk_all h x hx)
theorem partOk_noWild {x : Bs} (h : partOk x = true) : ∀ y ∈ x, noWild y = true := by
  have := partOk_sgn h
  unfold allSigns at this
  rw [List.all_eq_true] at this
  exact fun y hy => psign_noWild (this y hy)
theorem mem_cutAt {c y : UInt8} {s : Bs} (hy : y ∈ s) : y = c ∨ ∃ x ∈ cutAt c s, y ∈ x := by
  induction s with
  | nil => simp at hy
  | cons z t ih =>
    by_cases hz : z = c
    · subst hz
      rcases List.mem_cons.1 hy with rfl | hy
      · exact Or.inl rfl
      · rcases ih hy with h | ⟨x, hx, hxy⟩
        · exact Or.inl h
        · exact Or.inr ⟨x, by rw [cutAt_cons_hit]; exact List.mem_cons_of_mem _ hx, hxy⟩
    · obtain ⟨a, l, h1, h2⟩ := cutAt_cons_miss hz t
      rw [h2]
      rcases List.mem_cons.1 hy with rfl | hy
      · exact Or.inr ⟨_, List.mem_cons_self .., List.mem_cons_self ..⟩
      · rcases ih hy with h | ⟨x, hx, hxy⟩
        · exact Or.inl h
        · rw [h1] at hx
          rcases List.mem_cons.1 hx with rfl | hx
          · exact Or.inr ⟨_, List.mem_cons_self .., List.mem_cons_of_mem _ hxy⟩
          · exact Or.inr ⟨x, List.mem_cons_of_mem _ hx, hxy⟩
theorem pathOk_noWild {l : Bs} (h : pathOk l = true) : ∀ y ∈ l, noWild y = true := by
  intro y hy
  rcases mem_cutAt (c := 47) hy with rfl | ⟨x, hx, hxy⟩
  · rfl
  · exact partOk_noWild (pathOk_all h x hx) y hxy
theorem gfixed_path {l : Bs} (h : pathOk l = true) : gfixed l = l := by
  unfold gfixed
  rw [if_pos (gmay_of_pathOk h)]
  have := pathOk_noWild h
  clear h
  induction l with
  | nil => rfl
  | cons y t ih => rw [List.takeWhile_cons_of_pos (this y (List.mem_cons_self ..)), ih (fun z hz => this z (List.mem_cons_of_mem _ hz))]

/-! It matches itself alone. -/
theorem wild_self {x : Bs} (h : ∀ y ∈ x, noWild y = true) (n : Bs) : wild x n = true ↔ x = n := by
  induction x generalizing n with
  | nil => simp only [wild, List.isEmpty_iff]; exact eq_comm
  | cons y t ih =>
    obtain ⟨h42, h63⟩ := noWild_ne (h y (List.mem_cons_self ..))
    cases n with
    | nil => rw [wild_chr_nil y h42]; simp
    | cons c n =>
      rw [wild_chr y h42, Bool.and_eq_true, ih (fun z hz => h z (List.mem_cons_of_mem _ hz)), List.cons.injEq]
      have : okc y c = true ↔ y = c := by unfold okc; simp [h63]
      rw [this]
theorem deal_self {ps : List Bs} (h : ∀ x ∈ ps, ∀ y ∈ x, noWild y = true) (ns : List Bs) : deal ps ns = true ↔ ps = ns := by
  induction ps generalizing ns with
  | nil => simp only [deal, List.isEmpty_iff]; exact eq_comm
  | cons x ps ih =>
    have hx := h x (List.mem_cons_self ..)
    have hne : x ≠ [42, 42] := by rintro rfl; exact absurd (hx 42 (by simp)) (by decide)
    simp only [deal]
    rw [if_neg hne]
    cases ns with
    | nil => simp
    | cons n t =>
      simp only [Bool.and_eq_true, List.cons.injEq]
      rw [wild_self hx, ih (fun z hz => h z (List.mem_cons_of_mem _ hz))]
theorem gmatch_self {p : Bs} (h : pathOk p = true) (s : Bs) : gmatch p s = (p == s) := by
  have hd := deal_self (fun x hx => partOk_noWild (pathOk_all h x hx)) (cutAt 47 s)
  rw [Bool.eq_iff_iff, beq_iff_eq]
  unfold gmatch
  rw [gmay_of_pathOk h, Bool.true_and, Bool.and_eq_true, hd]
  constructor
  · rintro ⟨-, h2⟩; exact cutAt_inj h2
  · rintro rfl; exact ⟨h, rfl⟩

/-! Two stars match each path; so do two stars and its last part. -/
theorem gmatch_stars {s : Bs} (h : pathOk s = true) : gmatch [42, 42] s = true := by
  unfold gmatch
  rw [show gmay [42, 42] = true by decide, h, show cutAt 47 ([42, 42] : Bs) = [[42, 42]] by decide]
  simp only [deal, if_true, Bool.true_and, Bool.not_eq_true', List.isEmpty_eq_false_iff]
  exact cutAt_ne _ _
theorem deal_ends {x : Bs} (h : ∀ y ∈ x, noWild y = true) (a : List Bs) : deal [[42, 42], x] (a ++ [x]) = true := by
  simp only [deal, if_true]
  rw [if_neg (by simp), suff_iff]
  refine ⟨a, [x], rfl, ?_⟩
  have hne : x ≠ [42, 42] := by rintro rfl; exact absurd (h 42 (by simp)) (by decide)
  rw [if_neg hne]
  show (wild x x && true) = true
  rw [(wild_self h x).2 rfl]; rfl
theorem gmatch_last {s x : Bs} {a : List Bs} (h : pathOk s = true) (hc : cutAt 47 s = a ++ [x]) : gmatch (42 :: 42 :: 47 :: x) s = true := by
  have hx : x ∈ cutAt 47 s := by rw [hc]; simp
  have hfree := cutAt_free 47 s x hx
  have hcut : cutAt 47 (42 :: 42 :: 47 :: x) = [[42, 42], x] := by
    rw [show (42 :: 42 :: 47 :: x : Bs) = [42, 42] ++ 47 :: x from rfl, cutAt_hit 47 [42, 42] x (by decide), cutAt_none 47 x hfree]
  unfold gmatch
  rw [h, hcut, hc, deal_ends (partOk_noWild (pathOk_all h x hx))]
  unfold gmay
  rw [hcut]
  simp only [List.length_cons, List.length_nil, List.all_cons, List.all_nil, gpart_of_partOk (pathOk_all h x hx)]
  rw [show gpart [42, 42] = true by decide]; rfl

end Go.Proofs.YtabobdmgjmgifaaDoor
