/-
  Plain law: the rows by which the reference tells whether a pattern matches a path. No program in sight.
-/
import Derived.Test.YtabobdmgjmgifaaDoorGw
import Derived.Test.YtabobdmgjmgifaaDoorRefOne
namespace Go.Proofs.YtabobdmgjmgifaaDoor

def rowM (ps ns : List Bs) (i k : Nat) : Bool := if i = ps.length then deal ps (ns.take k) else deal0 (ps.take i) (ns.take k)

theorem take_succ_getB {l : List Bs} {k : Nat} {x : Bs} (h : l[k]? = some x) : l.take (k + 1) = l.take k ++ [x] := by
  rw [List.take_add_one, h]; rfl
theorem rowM_zero {ps ns : List Bs} (hp : 0 < ps.length) {k : Nat} (hk : k ≤ ns.length) : rowM ps ns 0 k = decide (k = 0) := by
  unfold rowM
  rw [if_neg (by omega), List.take_zero, deal0, gw, Bool.eq_iff_iff, List.isEmpty_iff, decide_eq_true_eq, List.take_eq_nil_iff]
  constructor
  · rintro (h | h)
    · exact h
    · subst h; simp at hk; exact hk
  · intro h; exact .inl h
/-- The row behind one part more, whether it is the last or not, where it is no two stars. -/
theorem rowM_chr {ps ns : List Bs} {i : Nat} {x : Bs} (hi : ps[i]? = some x) (hx : x ≠ [42, 42]) (k : Nat) : rowM ps ns (i + 1) k = deal0 (ps.take i ++ [x]) (ns.take k) := by
  have hl := (List.getElem?_eq_some_iff.1 hi).1
  unfold rowM
  by_cases h : i + 1 = ps.length
  · rw [if_pos h]
    have e : ps = ps.take i ++ [x] := by
      have := take_succ_getB hi
      rw [List.take_of_length_le (by omega)] at this
      exact this
    rw [congrArg (fun q => deal q (ns.take k)) e]
    exact deal_snoc hx _ _
  · rw [if_neg h, take_succ_getB hi]
theorem rowM_chr_zero {ps ns : List Bs} {i : Nat} {x : Bs} (hi : ps[i]? = some x) (hx : x ≠ [42, 42]) : rowM ps ns (i + 1) 0 = false := by
  rw [rowM_chr hi hx, List.take_zero]; exact gw_snoc_chr_nil _ _ (isStars_false hx) _
theorem rowM_chr_succ {ps ns : List Bs} {i k : Nat} {x n : Bs} (hi : ps[i]? = some x) (hx : x ≠ [42, 42]) (hk : ns[k]? = some n) : rowM ps ns (i + 1) (k + 1) = (rowM ps ns i k && wild x n) := by
  have hl := (List.getElem?_eq_some_iff.1 hi).1
  rw [rowM_chr hi hx, take_succ_getB hk]
  unfold deal0
  rw [gw_snoc_chr _ _ (isStars_false hx)]
  unfold rowM
  rw [if_neg (by omega)]; rfl
theorem rowM_last {ps ns : List Bs} {i : Nat} (hi : ps[i]? = some [42, 42]) (hl : i + 1 = ps.length) (k : Nat) : rowM ps ns (i + 1) k = deal (ps.take i ++ [[42, 42]]) (ns.take k) := by
  unfold rowM
  rw [if_pos hl]
  have e : ps = ps.take i ++ [[42, 42]] := by
    have := take_succ_getB hi
    rw [List.take_of_length_le (by omega)] at this
    exact this
  exact congrArg (fun q => deal q (ns.take k)) e
theorem rowM_last_zero {ps ns : List Bs} {i : Nat} (hi : ps[i]? = some [42, 42]) (hl : i + 1 = ps.length) : rowM ps ns (i + 1) 0 = false := by
  rw [rowM_last hi hl, List.take_zero, deal_last_nil]
theorem rowM_last_succ {ps ns : List Bs} {i k : Nat} {n : Bs} (hi : ps[i]? = some [42, 42]) (hl : i + 1 = ps.length) (hk : ns[k]? = some n) : rowM ps ns (i + 1) (k + 1) = (rowM ps ns i k || rowM ps ns (i + 1) k) := by
  rw [rowM_last hi hl, rowM_last hi hl, take_succ_getB hk, deal_last_snoc]
  unfold rowM
  rw [if_neg (by omega)]
theorem rowM_stars_zero {ps ns : List Bs} {i : Nat} (hi : ps[i]? = some [42, 42]) (hl : i + 1 < ps.length) : rowM ps ns (i + 1) 0 = rowM ps ns i 0 := by
  unfold rowM
  rw [if_neg (by omega), if_neg (by omega), List.take_zero, take_succ_getB hi]
  exact gw_snoc_star_nil _ _ (isStars_true rfl) _
theorem rowM_stars_succ {ps ns : List Bs} {i k : Nat} {n : Bs} (hi : ps[i]? = some [42, 42]) (hl : i + 1 < ps.length) (hk : ns[k]? = some n) : rowM ps ns (i + 1) (k + 1) = (rowM ps ns i (k + 1) || rowM ps ns (i + 1) k) := by
  unfold rowM
  rw [if_neg (by omega), if_neg (by omega), if_neg (by omega), take_succ_getB hi, take_succ_getB hk]
  exact gw_snoc_star _ _ (isStars_true rfl) _ _ _

end Go.Proofs.YtabobdmgjmgifaaDoor
