/-
  Plain laws of GlobsBelow: what lies below a directory. No program in sight.
-/
import Derived.Test.YtabobdmgjmgifaaDoorLast
import Derived.Test.YtabobdmgjmgifaaDoorGw
namespace Go.Proofs.YtabobdmgjmgifaaDoor
open Go Go.RowKit

/-- Parts, with strokes between them. -/
def glue : List Bs → Bs
  | [] => []
  | x :: l => if l = [] then x else x ++ 47 :: glue l

theorem glue_one (x : Bs) : glue [x] = x := by simp [glue]
theorem glue_cons (x y : Bs) (l : List Bs) : glue (x :: y :: l) = x ++ 47 :: glue (y :: l) := by
  rw [glue, if_neg (by simp)]
theorem glue_snoc (l : List Bs) (h : l ≠ []) (x : Bs) : glue (l ++ [x]) = glue l ++ 47 :: x := by
  induction l with
  | nil => exact absurd rfl h
  | cons y l ih =>
    cases l with
    | nil => rw [glue_one, List.cons_append, List.nil_append, glue_cons, glue_one]
    | cons z l =>
      rw [List.cons_append, List.cons_append, glue_cons, glue_cons]
      rw [List.cons_append] at ih
      rw [ih (by simp), List.append_assoc, List.cons_append]
theorem glue_cut (s : Bs) : glue (cutAt 47 s) = s := by
  induction s with
  | nil => rfl
  | cons x t ih =>
    by_cases hx : x = 47
    · subst hx
      rw [cutAt_cons_hit, glue, if_neg (cutAt_ne _ _), ih]; rfl
    · obtain ⟨a, l, h1, h2⟩ := cutAt_cons_miss hx t
      rw [h1] at ih
      rw [h2]
      cases l with
      | nil => rw [glue_one] at ih ⊢; rw [ih]
      | cons y l => rw [glue_cons] at ih ⊢; rw [List.cons_append, ih]
theorem cut_glue (l : List Bs) (h : l ≠ []) (hf : ∀ x ∈ l, (47 : UInt8) ∉ x) : cutAt 47 (glue l) = l := by
  induction l with
  | nil => exact absurd rfl h
  | cons x l ih =>
    have hx := hf x (List.mem_cons_self ..)
    cases l with
    | nil => rw [glue_one]; exact cutAt_none _ _ hx
    | cons y l =>
      rw [glue_cons, cutAt_hit _ _ _ hx, ih (by simp) (fun z hz => hf z (List.mem_cons_of_mem _ hz))]
theorem glue_len (l m : List Bs) : (glue l).length ≤ (glue (l ++ m)).length := by
  induction l with
  | nil => exact Nat.zero_le _
  | cons x l ih =>
    cases l with
    | nil =>
      rw [glue_one]
      cases m with
      | nil => rw [List.append_nil, glue_one]; exact Nat.le_refl _
      | cons y m => rw [List.cons_append, List.nil_append, glue_cons, List.length_append]; omega
    | cons y l =>
      rw [List.cons_append] at ih
      rw [List.cons_append, List.cons_append, glue_cons, glue_cons, List.length_append, List.length_append, List.length_cons, List.length_cons]
      omega

/-- A path's directory. -/
def dirOf (s : Bs) : Bs := if pathOk s then glue (cutAt 47 s).dropLast else []
/-- Is a path below a directory? -/
def under (s d : Bs) : Bool := pathOk s && (decide ((cutAt 47 d).length < (cutAt 47 s).length) && (cutAt 47 d).isPrefixOf (cutAt 47 s))

theorem pathOk_ne {d : Bs} (h : pathOk d = true) : d ≠ [] := by rintro rfl; revert h; decide
theorem cut_up {s : Bs} (hl : 1 < (cutAt 47 s).length) : cutAt 47 (glue (cutAt 47 s).dropLast) = (cutAt 47 s).dropLast := by
  refine cut_glue _ ?_ (fun x hx => cutAt_free 47 s x (List.dropLast_subset _ hx))
  intro h
  have := congrArg List.length h
  rw [List.length_dropLast] at this
  simp at this
  omega
theorem pathOk_up {s : Bs} (h : pathOk s = true) (hl : 1 < (cutAt 47 s).length) : pathOk (glue (cutAt 47 s).dropLast) = true := by
  have h1 := pathOk_len h
  have h2 := pathOk_all h
  unfold pathOk
  rw [cut_up hl, List.length_dropLast, decide_eq_true (by omega), Bool.true_and, List.all_eq_true]
  exact fun x hx => h2 x (List.dropLast_subset _ hx)
theorem dirOf_one {s : Bs} (hl : (cutAt 47 s).length = 1) : dirOf s = [] := by
  unfold dirOf
  split
  · obtain ⟨x, hx⟩ := List.length_eq_one_iff.1 hl
    rw [hx]; rfl
  · rfl
theorem dirOf_up {s : Bs} (h : pathOk s = true) : dirOf s = glue (cutAt 47 s).dropLast := by unfold dirOf; rw [if_pos h]
theorem dirOf_ne {s : Bs} (h : pathOk s = true) (hl : 1 < (cutAt 47 s).length) : dirOf s ≠ [] := by
  rw [dirOf_up h]; exact pathOk_ne (pathOk_up h hl)
theorem cut_pos (s : Bs) : 0 < (cutAt 47 s).length := List.length_pos_iff.2 (cutAt_ne _ _)

theorem under_iff (s d : Bs) : under s d = true ↔ pathOk s = true ∧ ∃ b, b ≠ [] ∧ cutAt 47 s = cutAt 47 d ++ b := by
  unfold under
  rw [Bool.and_eq_true, Bool.and_eq_true, decide_eq_true_eq, List.isPrefixOf_iff_prefix]
  refine and_congr_right fun _ => ?_
  constructor
  · rintro ⟨h1, b, hb⟩
    refine ⟨b, ?_, hb.symm⟩
    rintro rfl
    rw [List.append_nil] at hb
    rw [hb] at h1; omega
  · rintro ⟨b, hb, h⟩
    refine ⟨?_, b, h.symm⟩
    rw [h, List.length_append]
    have := List.length_pos_iff.2 hb
    omega
theorem under_bad {s : Bs} (h : pathOk s = false) (d : Bs) : under s d = false := by unfold under; rw [h]; rfl
theorem under_one {s : Bs} (hl : (cutAt 47 s).length = 1) (d : Bs) : under s d = false := by
  have := cut_pos d
  unfold under
  rw [decide_eq_false (by omega), Bool.false_and, Bool.and_false]
theorem under_up {s : Bs} (h : pathOk s = true) (hl : 1 < (cutAt 47 s).length) (d : Bs) (hd : d ≠ []) : under s d = (dirOf s == d || under (dirOf s) d) := by
  have hup := cut_up hl
  rw [Bool.eq_iff_iff, Bool.or_eq_true, beq_iff_eq, under_iff, under_iff, dirOf_up h, hup]
  have hlast := List.dropLast_concat_getLast (cutAt_ne 47 s)
  constructor
  · rintro ⟨-, b, hb, e⟩
    rcases List.eq_nil_or_concat b with rfl | ⟨b', x, rfl⟩
    · exact absurd rfl hb
    · rw [List.concat_eq_append, ← List.append_assoc] at e
      rw [e, List.dropLast_concat]
      by_cases hb' : b' = []
      · subst hb'; left; rw [List.append_nil, glue_cut]
      · right; refine ⟨?_, b', hb', rfl⟩
        have := pathOk_up h hl
        rwa [e, List.dropLast_concat] at this
  · rintro (e | ⟨-, b, hb, e⟩)
    · rw [← hlast]
      rw [← e, hup]
      exact ⟨h, _, by simp, rfl⟩
    · rw [← hlast, e]
      exact ⟨h, b ++ [(cutAt 47 s).getLast (cutAt_ne 47 s)], by simp, by simp⟩

theorem deal0_self {ps : List Bs} (h : ∀ x ∈ ps, ∀ y ∈ x, noWild y = true) (ns : List Bs) : deal0 ps ns = true ↔ ps = ns := by
  unfold deal0
  induction ps generalizing ns with
  | nil => simp only [gw, List.isEmpty_iff]; exact eq_comm
  | cons x ps ih =>
    have hx := h x (List.mem_cons_self ..)
    have hne : x ≠ [42, 42] := by rintro rfl; exact absurd (hx 42 (by simp)) (by decide)
    cases ns with
    | nil => rw [gw_chr_nil _ _ (isStars_false hne)]; simp
    | cons n t =>
      rw [gw_chr _ _ (isStars_false hne), Bool.and_eq_true, wild_self hx, ih (fun z hz => h z (List.mem_cons_of_mem _ hz)), List.cons.injEq]

theorem below_may {d x : Bs} (h : pathOk d = true) (hc : d.count 47 ≤ 14) (hx : gpart x = true) (hf : (47 : UInt8) ∉ x) : cutAt 47 (d ++ 47 :: x) = cutAt 47 d ++ [x] ∧ gmay (d ++ 47 :: x) = true := by
  have e := cutAt_last d x hf
  refine ⟨e, ?_⟩
  unfold gmay
  rw [e, List.length_append, cutAt_length, decide_eq_true (show d.count 47 + 1 + [x].length ≤ 16 by simp only [List.length_cons, List.length_nil]; omega), Bool.true_and, List.all_append, Bool.and_eq_true]
  refine ⟨List.all_eq_true.2 fun y hy => gpart_of_partOk (pathOk_all h y hy), ?_⟩
  rw [List.all_cons, hx]; rfl
/-- ALL BELOW A DIRECTORY IS WHAT ITS NAME, A STROKE AND TWO STARS MATCH. -/
theorem gmatch_below {d : Bs} (h : pathOk d = true) (hc : d.count 47 ≤ 14) (s : Bs) : gmatch (d ++ 47 :: [42, 42]) s = under s d := by
  obtain ⟨e, hm⟩ := below_may h hc (x := [42, 42]) (by decide) (by decide)
  rw [Bool.eq_iff_iff, under_iff]
  unfold gmatch
  rw [hm, Bool.true_and, Bool.and_eq_true, e, deal_snoc_stars]
  refine and_congr_right fun _ => ?_
  have hself := deal0_self (fun x hx => partOk_noWild (pathOk_all h x hx))
  constructor
  · rintro ⟨a, b, h1, hb, h2⟩
    rw [hself] at h2
    subst h2
    exact ⟨b, hb, h1⟩
  · rintro ⟨b, hb, h1⟩
    exact ⟨_, b, h1, hb, (hself _).2 rfl⟩
/-- ALL IN A DIRECTORY IS WHAT ITS NAME, A STROKE AND A STAR MATCH. -/
theorem gmatch_in {d : Bs} (h : pathOk d = true) (hc : d.count 47 ≤ 14) (s : Bs) : gmatch (d ++ 47 :: [42]) s = (under s d && dirOf s == d) := by
  obtain ⟨e, hm⟩ := below_may h hc (x := [42]) (by decide) (by decide)
  rw [Bool.eq_iff_iff, Bool.and_eq_true, beq_iff_eq, under_iff]
  unfold gmatch
  rw [hm, Bool.true_and, Bool.and_eq_true, e, deal_snoc (by decide)]
  have hself := deal0_self (fun x hx => partOk_noWild (pathOk_all h x hx))
  have hd := cut_pos d
  constructor
  · rintro ⟨hp, h1⟩
    unfold deal0 at h1
    rw [gw_append] at h1
    obtain ⟨a, b, h1, h2, h3⟩ := h1
    rw [show gw isStars wild (cutAt 47 d) a = deal0 (cutAt 47 d) a from rfl, hself] at h2
    subst h2
    obtain ⟨c, rfl, -⟩ := (gw_one_chr isStars wild (by decide) b).1 h3
    refine ⟨⟨hp, [c], by simp, h1⟩, ?_⟩
    rw [dirOf_up hp, h1, List.dropLast_concat, glue_cut]
  · rintro ⟨⟨hp, b, hb, h1⟩, h2⟩
    refine ⟨hp, ?_⟩
    have hl : 1 < (cutAt 47 s).length := by
      rw [h1, List.length_append]
      have := List.length_pos_iff.2 hb
      omega
    rw [dirOf_up hp] at h2
    have h3 := cut_up hl
    rw [h2] at h3
    unfold deal0
    rw [gw_append]
    refine ⟨cutAt 47 d, [(cutAt 47 s).getLast (cutAt_ne 47 s)], ?_, (hself _).2 rfl, ?_⟩
    · rw [h3]; exact (List.dropLast_concat_getLast (cutAt_ne 47 s)).symm
    · refine (gw_one_chr isStars wild (by decide) _).2 ⟨_, rfl, ?_⟩
      rw [wild_star, suff_iff]
      exact ⟨_, [], (List.append_nil _).symm, rfl⟩

end Go.Proofs.YtabobdmgjmgifaaDoor
