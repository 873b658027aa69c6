/-
  Plain law: what stays true in the loop of a matcher that keeps the last star alone. No program in sight.
-/
import Derived.Test.YtabobdmgjmgifaaDoorWild
namespace Go.Proofs.YtabobdmgjmgifaaDoor

/-- WHAT STAYS TRUE: the pattern from i on and the text from k on are left; st is the last star's place (or -1), a where it has come to. -/
def OneInv (p s : List UInt8) (i k : Nat) (st : Int) (a : Nat) : Prop :=
  i ≤ p.length ∧ k ≤ s.length ∧ a ≤ k ∧ ((st = -1 ∧ wild p s = wild (p.drop i) (s.drop k)) ∨
    ∃ n : Nat, st = n ∧ n < i ∧ p[n]? = some 42 ∧ wild p s = wild (p.drop n) (s.drop a) ∧ runs ((p.drop (n + 1)).take (i - (n + 1))) ((s.drop a).take (k - a)) = true)

theorem OneInv.start (p s : List UInt8) : OneInv p s 0 0 (-1) 0 := ⟨Nat.zero_le _, Nat.zero_le _, Nat.le_refl _, .inl ⟨rfl, rfl⟩⟩

theorem drop_of_get {l : List UInt8} {i : Nat} {x : UInt8} (h : l[i]? = some x) : l.drop i = x :: l.drop (i + 1) := by
  obtain ⟨hi, hx⟩ := List.getElem?_eq_some_iff.1 h
  rw [List.drop_eq_getElem_cons hi, hx]
theorem take_snoc_of_get {l : List UInt8} {n i : Nat} {x : UInt8} (hn : n ≤ i) (h : l[i]? = some x) : (l.drop n).take (i + 1 - n) = (l.drop n).take (i - n) ++ [x] := by
  obtain ⟨hi, hx⟩ := List.getElem?_eq_some_iff.1 h
  rw [show i + 1 - n = (i - n) + 1 from by omega, List.take_succ_eq_append_getElem (by simp; omega)]
  congr 2
  rw [List.getElem_drop]
  rw [← hx]; congr 1; omega
/-- A list from n on: a piece up to i, and the rest. -/
theorem drop_cut (l : List UInt8) {n i : Nat} (h : n ≤ i) : l.drop n = (l.drop n).take (i - n) ++ l.drop i := by
  have := (List.take_append_drop (i - n) (l.drop n)).symm
  rw [List.drop_drop, show n + (i - n) = i from by omega] at this
  exact this

theorem OneInv.star {p s : List UInt8} {i k : Nat} {st : Int} {a : Nat} (h : OneInv p s i k st a) (hi : p[i]? = some 42) : OneInv p s (i + 1) k i k := by
  obtain ⟨h1, h2, h3, h⟩ := h
  have hl := (List.getElem?_eq_some_iff.1 hi).1
  refine ⟨by omega, h2, Nat.le_refl _, .inr ⟨i, rfl, by omega, hi, ?_, by simp [runs]⟩⟩
  rcases h with ⟨-, hw⟩ | ⟨n, -, hn, hpn, hw, hr⟩
  · exact hw
  · rw [hw, drop_of_get hpn, drop_cut p (show n + 1 ≤ i by omega), drop_of_get hi, drop_cut s h3]
    have := star_run_star hr (p.drop (i + 1)) (s.drop k)
    rw [this]

theorem OneInv.fits {p s : List UInt8} {i k : Nat} {st : Int} {a : Nat} {x c : UInt8} (h : OneInv p s i k st a) (hi : p[i]? = some x) (hk : s[k]? = some c) (hx : x ≠ 42) (hc : okc x c = true) : OneInv p s (i + 1) (k + 1) st a := by
  obtain ⟨h1, h2, h3, h⟩ := h
  have hl := (List.getElem?_eq_some_iff.1 hi).1
  have hl2 := (List.getElem?_eq_some_iff.1 hk).1
  refine ⟨by omega, by omega, by omega, ?_⟩
  rcases h with ⟨hs, hw⟩ | ⟨n, hs, hn, hpn, hw, hr⟩
  · left; refine ⟨hs, ?_⟩
    rw [hw, drop_of_get hi, drop_of_get hk, wild_chr x hx, hc]; rfl
  · right; refine ⟨n, hs, by omega, hpn, hw, ?_⟩
    rw [take_snoc_of_get (by omega) hi, take_snoc_of_get (by omega) hk]
    exact runs_snoc hr hx hc

/-- It doesn't go on: the star takes one more. -/
theorem OneInv.back {p s : List UInt8} {i k : Nat} {st : Int} {a : Nat} {c : UInt8} (h : OneInv p s i k st a) (hst : 0 ≤ st) (hk : s[k]? = some c)
    (hm : p.length ≤ i ∨ ∃ x, p[i]? = some x ∧ x ≠ 42 ∧ okc x c = false) : OneInv p s (st.toNat + 1) (a + 1) st (a + 1) := by
  obtain ⟨h1, h2, h3, h⟩ := h
  have hl2 := (List.getElem?_eq_some_iff.1 hk).1
  rcases h with ⟨hs, -⟩ | ⟨n, hs, hn, hpn, hw, hr⟩
  · omega
  subst hs
  rw [Int.toNat_natCast]
  have hpl := (List.getElem?_eq_some_iff.1 hpn).1
  refine ⟨by omega, by omega, Nat.le_refl _, .inr ⟨n, rfl, by omega, hpn, ?_, by simp [runs]⟩⟩
  rw [hw, drop_of_get hpn]
  have ha : a < s.length := by omega
  have hsa : s.drop a = s[a] :: s.drop (a + 1) := List.drop_eq_getElem_cons ha
  have hcut : (s.drop a).take (k - a) ++ c :: s.drop (k + 1) = s[a] :: s.drop (a + 1) := by rw [← hsa, ← drop_of_get hk, ← drop_cut s h3]
  rw [hsa]
  rcases hm with hm | ⟨x, hx, hx42, hxc⟩
  · have hd : p.drop (n + 1) = (p.drop (n + 1)).take (i - (n + 1)) := by
      have := drop_cut p (show n + 1 ≤ i by omega)
      rw [List.drop_of_length_le hm, List.append_nil] at this
      exact this
    rw [hd]
    exact star_run_miss_end hr _ _ _ _ hcut
  · rw [drop_cut p (show n + 1 ≤ i by omega), drop_of_get hx]
    exact star_run_miss hr _ _ _ _ hx42 hxc _ _ hcut

/-- It doesn't go on, and there was no star. -/
theorem OneInv.fails {p s : List UInt8} {i k : Nat} {st : Int} {a : Nat} {c : UInt8} (h : OneInv p s i k st a) (hst : st < 0) (hk : s[k]? = some c)
    (hm : p.length ≤ i ∨ ∃ x, p[i]? = some x ∧ x ≠ 42 ∧ okc x c = false) : wild p s = false := by
  obtain ⟨h1, h2, h3, h⟩ := h
  rcases h with ⟨-, hw⟩ | ⟨n, hs, -⟩
  · rw [hw, drop_of_get hk]
    rcases hm with hm | ⟨x, hx, hx42, hxc⟩
    · rw [List.drop_of_length_le hm]; rfl
    · rw [drop_of_get hx, wild_chr x hx42, hxc]; rfl
  · omega

theorem OneInv.ends {p s : List UInt8} {i k : Nat} {st : Int} {a : Nat} (h : OneInv p s i k st a) (hk : s.length ≤ k) : wild p s = stars (p.drop i) := by
  obtain ⟨h1, h2, h3, h⟩ := h
  rcases h with ⟨-, hw⟩ | ⟨n, hs, hn, hpn, hw, hr⟩
  · rw [hw, List.drop_of_length_le hk, wild_nil_right]
  · rw [hw, drop_of_get hpn, drop_cut p (show n + 1 ≤ i by omega)]
    have hd : s.drop a = (s.drop a).take (k - a) := by
      have := drop_cut s h3
      rw [List.drop_of_length_le hk, List.append_nil] at this
      exact this
    rw [hd]
    exact star_run_end hr _

/-- How much is left: every round lowers it. -/
def oneLeft (lp ls : Nat) (st : Int) (a k : Nat) : Nat := (lp - (st + 1).toNat) * ((ls + 1) * (ls + 1)) + (ls - a) * (ls + 1) + (ls - k)
theorem oneLeft_star (lp ls : Nat) (st : Int) (a k i : Nat) (h1 : -1 ≤ st) (h2 : st < i) (hi : i < lp) (hk : k < ls) (ha : a ≤ k) : oneLeft lp ls i k k < oneLeft lp ls st a k := by
  unfold oneLeft
  have h4 : (ls - k) * (ls + 1) + (ls - k) < (ls + 1) * (ls + 1) := by
    have h6 : (ls - k) * (ls + 1) ≤ ls * (ls + 1) := Nat.mul_le_mul_right _ (by omega)
    have h5 : (ls + 1) * (ls + 1) = ls * (ls + 1) + (ls + 1) := by rw [Nat.add_mul, Nat.one_mul]
    omega
  generalize (ls + 1) * (ls + 1) = M at *
  have e : (lp - (st + 1).toNat) = (lp - ((i : Int) + 1).toNat) + ((i + 1) - (st + 1).toNat) := by omega
  rw [e, Nat.add_mul (lp - ((i : Int) + 1).toNat)]
  have h3 : M ≤ ((i + 1) - (st + 1).toNat) * M := Nat.le_mul_of_pos_left _ (by omega)
  omega
theorem oneLeft_fits (lp ls : Nat) (st : Int) (a k : Nat) (hk : k < ls) : oneLeft lp ls st a (k + 1) < oneLeft lp ls st a k := by
  unfold oneLeft; omega
theorem oneLeft_back (lp ls : Nat) (st : Int) (a k : Nat) (ha : a ≤ k) (hk : k < ls) : oneLeft lp ls st (a + 1) (a + 1) < oneLeft lp ls st a k := by
  unfold oneLeft
  have e : (ls - a) * (ls + 1) = (ls - (a + 1)) * (ls + 1) + (ls + 1) := by
    rw [show ls - a = (ls - (a + 1)) + 1 from by omega, Nat.add_mul, Nat.one_mul]
  rw [e]
  omega

end Go.Proofs.YtabobdmgjmgifaaDoor
