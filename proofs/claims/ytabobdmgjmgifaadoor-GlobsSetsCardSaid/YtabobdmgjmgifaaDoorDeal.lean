/-
  Plain law: how the parts of a path may be dealt to the parts of a pattern. No program in sight.
-/
import Derived.Test.YtabobdmgjmgifaaDoorWild
namespace Go.Proofs.YtabobdmgjmgifaaDoor

abbrev Bs := List UInt8

/-- May the names be dealt to the parts? -/
def deal : List Bs → List Bs → Bool
  | [], ns => ns.isEmpty
  | x :: ps, ns => if x = [42, 42] then (if ps = [] then !ns.isEmpty else suff (deal ps) ns) else
    match ns with
    | [] => false
    | n :: t => wild x n && deal ps t

def dealAt (ps ns : List Bs) (i k : Nat) : Bool := deal (ps.drop i) (ns.drop k)

theorem dealAt_end {ps ns : List Bs} {i k : Nat} (hi : i = ps.length) : dealAt ps ns i k = decide (ns.length ≤ k) := by
  unfold dealAt
  rw [List.drop_of_length_le (by omega)]
  simp only [deal]
  rw [Bool.eq_iff_iff, List.isEmpty_iff, decide_eq_true_eq, List.drop_eq_nil_iff]
theorem dealAt_name {ps ns : List Bs} {i k : Nat} {x n : Bs} (hi : ps[i]? = some x) (hx : x ≠ [42, 42]) (hk : ns[k]? = some n) : dealAt ps ns i k = (wild x n && dealAt ps ns (i + 1) (k + 1)) := by
  unfold dealAt
  obtain ⟨h1, h2⟩ := List.getElem?_eq_some_iff.1 hi
  obtain ⟨h3, h4⟩ := List.getElem?_eq_some_iff.1 hk
  rw [List.drop_eq_getElem_cons h1, List.drop_eq_getElem_cons h3, h2, h4]
  simp only [deal]
  rw [if_neg hx]
theorem dealAt_none {ps ns : List Bs} {i k : Nat} {x : Bs} (hi : ps[i]? = some x) (hx : x ≠ [42, 42]) (hk : ns.length ≤ k) : dealAt ps ns i k = false := by
  unfold dealAt
  obtain ⟨h1, h2⟩ := List.getElem?_eq_some_iff.1 hi
  rw [List.drop_eq_getElem_cons h1, h2, List.drop_of_length_le hk]
  simp only [deal]
  rw [if_neg hx]
theorem dealAt_last {ps ns : List Bs} {i k : Nat} (hi : ps[i]? = some [42, 42]) (hl : i + 1 = ps.length) : dealAt ps ns i k = decide (k < ns.length) := by
  unfold dealAt
  obtain ⟨h1, h2⟩ := List.getElem?_eq_some_iff.1 hi
  rw [List.drop_eq_getElem_cons h1, h2, List.drop_of_length_le (show ps.length ≤ i + 1 by omega)]
  simp only [deal, if_true]
  rw [Bool.eq_iff_iff, Bool.not_eq_true', decide_eq_true_eq, List.isEmpty_eq_false_iff, Ne, List.drop_eq_nil_iff]
  omega
theorem dealAt_stars {ps ns : List Bs} {i k : Nat} (hi : ps[i]? = some [42, 42]) (hl : i + 1 < ps.length) : dealAt ps ns i k = (dealAt ps ns (i + 1) k || (decide (k < ns.length) && dealAt ps ns i (k + 1))) := by
  unfold dealAt
  obtain ⟨h1, h2⟩ := List.getElem?_eq_some_iff.1 hi
  have hne : ps.drop (i + 1) ≠ [] := by rw [Ne, List.drop_eq_nil_iff]; omega
  rw [List.drop_eq_getElem_cons h1, h2]
  simp only [deal, if_true]
  rw [if_neg hne, if_neg hne]
  by_cases hk : k < ns.length
  · rw [List.drop_eq_getElem_cons hk, decide_eq_true hk, Bool.true_and]; rfl
  · rw [List.drop_of_length_le (show ns.length ≤ k by omega), decide_eq_false hk, Bool.false_and, Bool.or_false]; rfl

end Go.Proofs.YtabobdmgjmgifaaDoor
