/-
  Plain law: rows of things against patterns with stars, from the right. What a path's parts may be dealt to. No program in sight.
-/
import Derived.Test.YtabobdmgjmgifaaDoorDeal
namespace Go.Proofs.YtabobdmgjmgifaaDoor

section
variable {α β : Type} (star : α → Bool) (ok : α → β → Bool)

def gw : List α → List β → Bool
  | [], s => s.isEmpty
  | x :: p, s => if star x then suff (gw p) s else
    match s with
    | [] => false
    | c :: t => ok x c && gw p t

theorem gw_star {x : α} (hx : star x = true) (p : List α) (s : List β) : gw star ok (x :: p) s = suff (gw star ok p) s := by simp [gw, hx]
theorem gw_chr {x : α} (hx : star x = false) (p : List α) (c : β) (t : List β) : gw star ok (x :: p) (c :: t) = (ok x c && gw star ok p t) := by simp [gw, hx]
theorem gw_chr_nil {x : α} (hx : star x = false) (p : List α) : gw star ok (x :: p) [] = false := by simp [gw, hx]

theorem gw_append (p q : List α) (s : List β) : gw star ok (p ++ q) s = true ↔ ∃ a b, s = a ++ b ∧ gw star ok p a = true ∧ gw star ok q b = true := by
  induction p generalizing s with
  | nil =>
    simp only [List.nil_append, gw, List.isEmpty_iff]
    constructor
    · intro h; exact ⟨[], s, rfl, rfl, h⟩
    · rintro ⟨a, b, rfl, rfl, h⟩; exact h
  | cons x p ih =>
    cases hx : star x with
    | true =>
      rw [List.cons_append]
      simp only [gw_star star ok hx, suff_iff, ih]
      constructor
      · rintro ⟨a, b, rfl, c, d, rfl, h1, h2⟩
        exact ⟨a ++ c, d, by simp, ⟨a, c, rfl, h1⟩, h2⟩
      · rintro ⟨a, b, rfl, ⟨c, d, rfl, h1⟩, h2⟩
        exact ⟨c, d ++ b, by simp, d, b, rfl, h1, h2⟩
    | false =>
      rw [List.cons_append]
      cases s with
      | nil =>
        rw [gw_chr_nil star ok hx]
        constructor
        · intro h; cases h
        · rintro ⟨a, b, h, h1, h2⟩
          have : a = [] ∧ b = [] := by simpa using h.symm
          rw [this.1, gw_chr_nil star ok hx] at h1; cases h1
      | cons c t =>
        rw [gw_chr star ok hx, Bool.and_eq_true, ih]
        constructor
        · rintro ⟨ho, a, b, rfl, h1, h2⟩
          exact ⟨c :: a, b, rfl, by rw [gw_chr star ok hx, ho, h1]; rfl, h2⟩
        · rintro ⟨a, b, h, h1, h2⟩
          cases a with
          | nil => rw [gw_chr_nil star ok hx] at h1; cases h1
          | cons y a =>
            rw [List.cons_append, List.cons.injEq] at h
            obtain ⟨rfl, rfl⟩ := h
            rw [gw_chr star ok hx, Bool.and_eq_true] at h1
            exact ⟨h1.1, a, b, rfl, h1.2, h2⟩

theorem gw_one_star {x : α} (hx : star x = true) (s : List β) : gw star ok [x] s = true := by
  rw [gw_star star ok hx, suff_iff]; exact ⟨s, [], by simp, rfl⟩
theorem gw_one_chr {x : α} (hx : star x = false) (s : List β) : gw star ok [x] s = true ↔ ∃ c, s = [c] ∧ ok x c = true := by
  cases s with
  | nil => rw [gw_chr_nil star ok hx]; simp
  | cons c t =>
    rw [gw_chr star ok hx]
    simp only [gw, Bool.and_eq_true, List.isEmpty_iff, List.cons.injEq]
    constructor
    · rintro ⟨h, rfl⟩; exact ⟨c, ⟨rfl, rfl⟩, h⟩
    · rintro ⟨d, ⟨rfl, rfl⟩, h⟩; exact ⟨h, rfl⟩
theorem snoc_inj' {γ : Type} {a b : List γ} {c d : γ} (h : a ++ [c] = b ++ [d]) : a = b ∧ c = d := by
  have := List.append_inj' h rfl
  exact ⟨this.1, by simpa using this.2⟩

theorem gw_snoc_star {x : α} (hx : star x = true) (p : List α) (s : List β) (c : β) : gw star ok (p ++ [x]) (s ++ [c]) = (gw star ok p (s ++ [c]) || gw star ok (p ++ [x]) s) := by
  rw [Bool.eq_iff_iff, Bool.or_eq_true, gw_append, gw_append]
  constructor
  · rintro ⟨a, b, h, h1, -⟩
    rcases List.eq_nil_or_concat b with rfl | ⟨b', d, rfl⟩
    · left; rw [List.append_nil] at h; rw [h]; exact h1
    · right
      rw [List.concat_eq_append, ← List.append_assoc] at h
      exact ⟨a, b', (snoc_inj' h).1, h1, gw_one_star star ok hx _⟩
  · rintro (h | ⟨a, b, rfl, h1, h2⟩)
    · exact ⟨s ++ [c], [], by simp, h, gw_one_star star ok hx _⟩
    · exact ⟨a, b ++ [c], by simp, h1, gw_one_star star ok hx _⟩
theorem gw_snoc_star_nil {x : α} (hx : star x = true) (p : List α) : gw star ok (p ++ [x]) [] = gw star ok p [] := by
  rw [Bool.eq_iff_iff, gw_append]
  constructor
  · rintro ⟨a, b, h, h1, -⟩
    have : a = [] ∧ b = [] := by simpa using h.symm
    rw [this.1] at h1; exact h1
  · intro h; exact ⟨[], [], rfl, h, gw_one_star star ok hx _⟩
theorem gw_snoc_chr {x : α} (hx : star x = false) (p : List α) (s : List β) (c : β) : gw star ok (p ++ [x]) (s ++ [c]) = (gw star ok p s && ok x c) := by
  rw [Bool.eq_iff_iff, Bool.and_eq_true, gw_append]
  constructor
  · rintro ⟨a, b, h, h1, h2⟩
    obtain ⟨d, rfl, h3⟩ := (gw_one_chr star ok hx b).1 h2
    obtain ⟨rfl, rfl⟩ := snoc_inj' h
    exact ⟨h1, h3⟩
  · rintro ⟨h1, h2⟩
    exact ⟨s, [c], rfl, h1, (gw_one_chr star ok hx _).2 ⟨c, rfl, h2⟩⟩
theorem gw_snoc_chr_nil {x : α} (hx : star x = false) (p : List α) : gw star ok (p ++ [x]) [] = false := by
  rw [Bool.eq_false_iff, Ne, gw_append]
  rintro ⟨a, b, h, h1, h2⟩
  have : a = [] ∧ b = [] := by simpa using h.symm
  obtain ⟨d, hd, -⟩ := (gw_one_chr star ok hx b).1 h2
  rw [this.2] at hd; cases hd
end

/-! The parts of a pattern: two stars anywhere may take none. -/
def isStars (x : Bs) : Bool := x == [42, 42]
def deal0 : List Bs → List Bs → Bool := gw isStars wild

theorem suff_congr {α : Type} {f g : List α → Bool} (h : ∀ s, f s = g s) (s : List α) : suff f s = suff g s := by
  rw [show f = g from funext h]

theorem isStars_true {x : Bs} (h : x = [42, 42]) : isStars x = true := by subst h; rfl
theorem isStars_false {x : Bs} (h : x ≠ [42, 42]) : isStars x = false := beq_false_of_ne h

/-- Where the last part is no two stars. -/
theorem deal_snoc {x : Bs} (hx : x ≠ [42, 42]) (ps ns : List Bs) : deal (ps ++ [x]) ns = deal0 (ps ++ [x]) ns := by
  induction ps generalizing ns with
  | nil =>
    rw [List.nil_append]
    simp only [deal, deal0, gw]
    rw [if_neg hx, isStars_false hx]
    cases ns <;> simp
  | cons y ps ih =>
    rw [List.cons_append]
    by_cases hy : y = [42, 42]
    · simp only [deal]
      rw [if_pos hy, if_neg (by simp)]
      unfold deal0
      rw [gw_star _ _ (isStars_true hy)]
      exact suff_congr ih ns
    · simp only [deal]
      rw [if_neg hy]
      unfold deal0
      cases ns with
      | nil => rw [gw_chr_nil _ _ (isStars_false hy)]
      | cons n t => rw [gw_chr _ _ (isStars_false hy)]; show (wild y n && deal (ps ++ [x]) t) = _; rw [ih]; rfl
/-- Where it is: it takes one at least. -/
theorem deal_snoc_stars (ps ns : List Bs) : deal (ps ++ [[42, 42]]) ns = true ↔ ∃ a b, ns = a ++ b ∧ b ≠ [] ∧ deal0 ps a = true := by
  induction ps generalizing ns with
  | nil =>
    rw [List.nil_append]
    simp only [deal, if_true, deal0, gw, List.isEmpty_iff, Bool.not_eq_true', List.isEmpty_eq_false_iff]
    constructor
    · intro h; exact ⟨[], ns, rfl, h, rfl⟩
    · rintro ⟨a, b, rfl, h, rfl⟩; exact h
  | cons y ps ih =>
    rw [List.cons_append]
    by_cases hy : y = [42, 42]
    · simp only [deal]
      rw [if_pos hy, if_neg (by simp), suff_iff]
      unfold deal0
      constructor
      · rintro ⟨c, d, rfl, h⟩
        obtain ⟨a, b, rfl, hb, h2⟩ := (ih d).1 h
        exact ⟨c ++ a, b, by simp, hb, by rw [gw_star _ _ (isStars_true hy), suff_iff]; exact ⟨c, a, rfl, h2⟩⟩
      · rintro ⟨a, b, rfl, hb, h⟩
        rw [gw_star _ _ (isStars_true hy), suff_iff] at h
        obtain ⟨c, d, rfl, h2⟩ := h
        exact ⟨c, d ++ b, by simp, (ih _).2 ⟨d, b, rfl, hb, h2⟩⟩
    · simp only [deal]
      rw [if_neg hy]
      unfold deal0
      cases ns with
      | nil =>
        constructor
        · intro h; cases h
        · rintro ⟨a, b, h, hb, -⟩
          have : a = [] ∧ b = [] := by simpa using h.symm
          exact absurd this.2 hb
      | cons n t =>
        rw [Bool.and_eq_true, ih]
        constructor
        · rintro ⟨h1, a, b, rfl, hb, h2⟩
          exact ⟨n :: a, b, rfl, hb, by rw [gw_chr _ _ (isStars_false hy), h1]; exact h2⟩
        · rintro ⟨a, b, h, hb, h2⟩
          cases a with
          | nil => rw [gw_chr_nil _ _ (isStars_false hy)] at h2; cases h2
          | cons z a =>
            rw [List.cons_append, List.cons.injEq] at h
            obtain ⟨rfl, rfl⟩ := h
            rw [gw_chr _ _ (isStars_false hy), Bool.and_eq_true] at h2
            exact ⟨h2.1, a, b, rfl, hb, h2.2⟩
theorem deal_last_nil (ps : List Bs) : deal (ps ++ [[42, 42]]) [] = false := by
  rw [Bool.eq_false_iff, Ne, deal_snoc_stars]
  rintro ⟨a, b, h, hb, -⟩
  have : a = [] ∧ b = [] := by simpa using h.symm
  exact hb this.2
theorem deal_last_snoc (ps ns : List Bs) (n : Bs) : deal (ps ++ [[42, 42]]) (ns ++ [n]) = (deal0 ps ns || deal (ps ++ [[42, 42]]) ns) := by
  rw [Bool.eq_iff_iff, Bool.or_eq_true, deal_snoc_stars, deal_snoc_stars]
  constructor
  · rintro ⟨a, b, h, hb, h2⟩
    rcases List.eq_nil_or_concat b with rfl | ⟨b', d, rfl⟩
    · exact absurd rfl hb
    · rw [List.concat_eq_append, ← List.append_assoc] at h
      obtain ⟨h3, -⟩ := snoc_inj' h
      by_cases hb' : b' = []
      · subst hb'; rw [List.append_nil] at h3; left; rw [h3]; exact h2
      · right; exact ⟨a, b', h3, hb', h2⟩
  · rintro (h | ⟨a, b, rfl, hb, h2⟩)
    · exact ⟨ns, [n], rfl, by simp, h⟩
    · exact ⟨a, b ++ [n], by simp, by simp, h2⟩

end Go.Proofs.YtabobdmgjmgifaaDoor
