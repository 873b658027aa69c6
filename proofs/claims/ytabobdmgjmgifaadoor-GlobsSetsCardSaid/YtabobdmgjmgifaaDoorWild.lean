/-
  Plain laws on patterns of one part: what a pattern of signs, stars and marks matches. No program in sight.
-/
namespace Go.Proofs.YtabobdmgjmgifaaDoor

def okc (x c : UInt8) : Bool := x == 63 || x == c

/-- Does f say yes of some end of a list? -/
def suff {α : Type} (f : List α → Bool) : List α → Bool
  | [] => f []
  | c :: t => f (c :: t) || suff f t

/-- Does a pattern match a text? -/
def wild : List UInt8 → List UInt8 → Bool
  | [], s => s.isEmpty
  | x :: p, s => if x = 42 then suff (wild p) s else
    match s with
    | [] => false
    | c :: t => okc x c && wild p t

theorem suff_iff {α : Type} (f : List α → Bool) (s : List α) : suff f s = true ↔ ∃ a b, s = a ++ b ∧ f b = true := by
  induction s with
  | nil =>
    simp only [suff]
    constructor
    · intro h; exact ⟨[], [], rfl, h⟩
    · rintro ⟨a, b, h, hb⟩
      have : a = [] ∧ b = [] := by simpa using h.symm
      rw [this.2] at hb; exact hb
  | cons c t ih =>
    simp only [suff, Bool.or_eq_true, ih]
    constructor
    · rintro (h | ⟨a, b, rfl, hb⟩)
      · exact ⟨[], _, rfl, h⟩
      · exact ⟨c :: a, b, rfl, hb⟩
    · rintro ⟨a, b, h, hb⟩
      cases a with
      | nil => left; rw [List.nil_append] at h; rw [h]; exact hb
      | cons x a =>
        right
        rw [List.cons_append, List.cons.injEq] at h
        exact ⟨a, b, h.2, hb⟩

theorem wild_star (p s : List UInt8) : wild (42 :: p) s = suff (wild p) s := by simp [wild]
theorem wild_star_nil (p : List UInt8) : wild (42 :: p) [] = wild p [] := by simp [wild, suff]
theorem wild_star_cons (p : List UInt8) (c : UInt8) (t : List UInt8) : wild (42 :: p) (c :: t) = (wild p (c :: t) || wild (42 :: p) t) := by simp [wild, suff]
theorem wild_chr (x : UInt8) (hx : x ≠ 42) (p : List UInt8) (c : UInt8) (t : List UInt8) : wild (x :: p) (c :: t) = (okc x c && wild p t) := by simp [wild, hx]
theorem wild_chr_nil (x : UInt8) (hx : x ≠ 42) (p : List UInt8) : wild (x :: p) [] = false := by simp [wild, hx]

theorem wild_append (p q s : List UInt8) : wild (p ++ q) s = true ↔ ∃ a b, s = a ++ b ∧ wild p a = true ∧ wild q b = true := by
  induction p generalizing s with
  | nil =>
    simp only [List.nil_append, wild, List.isEmpty_iff]
    constructor
    · intro h; exact ⟨[], s, rfl, rfl, h⟩
    · rintro ⟨a, b, rfl, rfl, h⟩; exact h
  | cons x p ih =>
    by_cases hx : x = 42
    · subst hx
      rw [List.cons_append]
      simp only [wild_star, suff_iff, ih]
      constructor
      · rintro ⟨a, b, rfl, c, d, rfl, h1, h2⟩
        exact ⟨a ++ c, d, by simp, ⟨a, c, rfl, h1⟩, h2⟩
      · rintro ⟨a, b, rfl, ⟨c, d, rfl, h1⟩, h2⟩
        exact ⟨c, d ++ b, by simp, d, b, rfl, h1, h2⟩
    · rw [List.cons_append]
      cases s with
      | nil =>
        rw [wild_chr_nil x hx]
        constructor
        · intro h; cases h
        · rintro ⟨a, b, h, h1, h2⟩
          have : a = [] ∧ b = [] := by simpa using h.symm
          rw [this.1, wild_chr_nil x hx] at h1; cases h1
      | cons c t =>
        rw [wild_chr x hx, Bool.and_eq_true, ih]
        constructor
        · rintro ⟨ho, a, b, rfl, h1, h2⟩
          exact ⟨c :: a, b, rfl, by rw [wild_chr x hx, ho, h1]; rfl, h2⟩
        · rintro ⟨a, b, h, h1, h2⟩
          cases a with
          | nil => rw [wild_chr_nil x hx] at h1; cases h1
          | cons y a =>
            rw [List.cons_append, List.cons.injEq] at h
            obtain ⟨rfl, rfl⟩ := h
            rw [wild_chr x hx, Bool.and_eq_true] at h1
            exact ⟨h1.1, a, b, rfl, h1.2, h2⟩

theorem wild_one_star (s : List UInt8) : wild [42] s = true := by
  rw [wild_star, suff_iff]; exact ⟨s, [], by simp, rfl⟩
theorem wild_one_chr (x : UInt8) (hx : x ≠ 42) (s : List UInt8) : wild [x] s = true ↔ ∃ c, s = [c] ∧ okc x c = true := by
  cases s with
  | nil => rw [wild_chr_nil x hx]; simp
  | cons c t =>
    rw [wild_chr x hx]
    simp only [wild, Bool.and_eq_true, List.isEmpty_iff, List.cons.injEq]
    constructor
    · rintro ⟨h, rfl⟩; exact ⟨c, ⟨rfl, rfl⟩, h⟩
    · rintro ⟨d, ⟨rfl, rfl⟩, h⟩; exact ⟨h, rfl⟩

theorem snoc_inj {a b : List UInt8} {c d : UInt8} (h : a ++ [c] = b ++ [d]) : a = b ∧ c = d := by
  have := List.append_inj' h rfl
  exact ⟨this.1, by simpa using this.2⟩

theorem wild_snoc_star (p s : List UInt8) (c : UInt8) : wild (p ++ [42]) (s ++ [c]) = (wild p (s ++ [c]) || wild (p ++ [42]) s) := by
  rw [Bool.eq_iff_iff, Bool.or_eq_true, wild_append, wild_append]
  constructor
  · rintro ⟨a, b, h, h1, -⟩
    rcases List.eq_nil_or_concat b with rfl | ⟨b', d, rfl⟩
    · left; rw [List.append_nil] at h; rw [h]; exact h1
    · right
      rw [List.concat_eq_append, ← List.append_assoc] at h
      exact ⟨a, b', (snoc_inj h).1, h1, wild_one_star _⟩
  · rintro (h | ⟨a, b, rfl, h1, h2⟩)
    · exact ⟨s ++ [c], [], by simp, h, wild_one_star _⟩
    · exact ⟨a, b ++ [c], by simp, h1, wild_one_star _⟩
theorem wild_snoc_star_nil (p : List UInt8) : wild (p ++ [42]) [] = wild p [] := by
  rw [Bool.eq_iff_iff, wild_append]
  constructor
  · rintro ⟨a, b, h, h1, -⟩
    have : a = [] ∧ b = [] := by simpa using h.symm
    rw [this.1] at h1; exact h1
  · intro h; exact ⟨[], [], rfl, h, wild_one_star _⟩
theorem wild_snoc_chr (x : UInt8) (hx : x ≠ 42) (p s : List UInt8) (c : UInt8) : wild (p ++ [x]) (s ++ [c]) = (wild p s && okc x c) := by
  rw [Bool.eq_iff_iff, Bool.and_eq_true, wild_append]
  constructor
  · rintro ⟨a, b, h, h1, h2⟩
    obtain ⟨d, rfl, h3⟩ := (wild_one_chr x hx b).1 h2
    obtain ⟨rfl, rfl⟩ := snoc_inj h
    exact ⟨h1, h3⟩
  · rintro ⟨h1, h2⟩
    exact ⟨s, [c], rfl, h1, (wild_one_chr x hx _).2 ⟨c, rfl, h2⟩⟩
theorem wild_snoc_chr_nil (x : UInt8) (hx : x ≠ 42) (p : List UInt8) : wild (p ++ [x]) [] = false := by
  rw [Bool.eq_false_iff, Ne, wild_append]
  rintro ⟨a, b, h, h1, h2⟩
  have : a = [] ∧ b = [] := by simpa using h.symm
  obtain ⟨d, hd, -⟩ := (wild_one_chr x hx b).1 h2
  rw [this.2] at hd; cases hd

/-- Nothing but stars. -/
def stars (p : List UInt8) : Bool := p.all (· == 42)
theorem wild_nil_right (p : List UInt8) : wild p [] = stars p := by
  induction p with
  | nil => rfl
  | cons x p ih =>
    by_cases hx : x = 42
    · subst hx; rw [wild_star_nil, ih]; simp [stars]
    · rw [wild_chr_nil x hx]; simp [stars, hx]

/-- A run of signs that are no stars, matched one by one. -/
def runs : List UInt8 → List UInt8 → Bool
  | [], s => s.isEmpty
  | _ :: _, [] => false
  | x :: p, c :: t => x != 42 && okc x c && runs p t

theorem runs_len {p s : List UInt8} (h : runs p s = true) : p.length = s.length := by
  induction p generalizing s with
  | nil => simp only [runs, List.isEmpty_iff] at h; rw [h]
  | cons x p ih =>
    cases s with
    | nil => simp [runs] at h
    | cons c t => simp only [runs, Bool.and_eq_true] at h; simp [ih h.2]
theorem runs_snoc {p s : List UInt8} {x c : UInt8} (h : runs p s = true) (hx : x ≠ 42) (hc : okc x c = true) : runs (p ++ [x]) (s ++ [c]) = true := by
  induction p generalizing s with
  | nil => simp only [runs, List.isEmpty_iff] at h; subst h; simp [runs, hx, hc]
  | cons y p ih =>
    cases s with
    | nil => simp [runs] at h
    | cons d t =>
      simp only [runs, Bool.and_eq_true] at h
      simp only [List.cons_append, runs, Bool.and_eq_true]
      exact ⟨h.1, ih h.2⟩
theorem wild_runs {p s : List UInt8} (h : runs p s = true) (q t : List UInt8) : wild (p ++ q) (s ++ t) = wild q t := by
  induction p generalizing s with
  | nil => simp only [runs, List.isEmpty_iff] at h; subst h; rfl
  | cons x p ih =>
    cases s with
    | nil => simp [runs] at h
    | cons c u =>
      simp only [runs, Bool.and_eq_true, bne_iff_ne] at h
      rw [List.cons_append, List.cons_append, wild_chr x h.1.1, ih h.2, h.1.2]; rfl
/-- A run takes as many signs as it has. -/
theorem wild_run_split {p s : List UInt8} (h : runs p s = true) (q u : List UInt8) (hw : wild (p ++ q) u = true) : ∃ a b, u = a ++ b ∧ a.length = p.length ∧ wild q b = true := by
  induction p generalizing s u with
  | nil => exact ⟨[], u, rfl, rfl, hw⟩
  | cons x p ih =>
    cases s with
    | nil => simp [runs] at h
    | cons c t =>
      simp only [runs, Bool.and_eq_true, bne_iff_ne] at h
      cases u with
      | nil => rw [List.cons_append, wild_chr_nil x h.1.1] at hw; cases hw
      | cons d u =>
        rw [List.cons_append, wild_chr x h.1.1, Bool.and_eq_true] at hw
        obtain ⟨a, b, rfl, h1, h2⟩ := ih h.2 _ hw.2
        exact ⟨d :: a, b, rfl, by simp [h1], h2⟩

/-- THE LAST STAR IS ENOUGH: behind a star and a run that fit, only what comes from here on counts. -/
theorem star_run_star {r s : List UInt8} (h : runs r s = true) (q t : List UInt8) : wild (42 :: (r ++ 42 :: q)) (s ++ t) = wild (42 :: q) t := by
  rw [Bool.eq_iff_iff]
  constructor
  · intro hw
    rw [wild_star, suff_iff] at hw
    obtain ⟨a, b, hab, hb⟩ := hw
    obtain ⟨c, d, rfl, h1, h2⟩ := wild_run_split h _ _ hb
    rw [wild_star, suff_iff] at h2
    obtain ⟨e, f, rfl, h3⟩ := h2
    rw [wild_star, suff_iff]
    have hl := runs_len h
    -- f is an end of t
    have hs : s ++ t = (a ++ c ++ e) ++ f := by rw [hab]; simp
    have hlen : s.length ≤ (a ++ c ++ e).length := by simp; omega
    obtain ⟨g, hg⟩ : ∃ g, a ++ c ++ e = s ++ g := by
      have h4 : (a ++ c ++ e) = (s ++ t).take (a ++ c ++ e).length := by rw [hs, List.take_left]
      refine ⟨t.take ((a ++ c ++ e).length - s.length), ?_⟩
      rw [List.take_append, List.take_of_length_le hlen] at h4
      exact h4
    rw [hg, List.append_assoc] at hs
    exact ⟨g, f, List.append_cancel_left hs, h3⟩
  · intro hw
    rw [wild_star, suff_iff]
    exact ⟨[], s ++ t, rfl, by rw [wild_runs h]; exact hw⟩

/-- A SIGN THAT DOES NOT FIT: the star takes one more. -/
theorem star_run_miss {r s : List UInt8} (h : runs r s = true) (x : UInt8) (q : List UInt8) (c : UInt8) (t : List UInt8) (hx : x ≠ 42) (hc : okc x c = false) (y : UInt8) (s' : List UInt8) (hs : s ++ c :: t = y :: s') :
    wild (42 :: (r ++ x :: q)) (y :: s') = wild (42 :: (r ++ x :: q)) s' := by
  rw [wild_star_cons, ← hs, wild_runs h, wild_chr x hx, hc]; rfl
theorem star_run_miss_end {r s : List UInt8} (h : runs r s = true) (c : UInt8) (t : List UInt8) (y : UInt8) (s' : List UInt8) (hs : s ++ c :: t = y :: s') :
    wild (42 :: r) (y :: s') = wild (42 :: r) s' := by
  rw [wild_star_cons, ← hs]
  have := wild_runs h [] (c :: t)
  rw [List.append_nil] at this
  rw [this]; rfl
/-- THE END: all signs are taken. -/
theorem star_run_end {r s : List UInt8} (h : runs r s = true) (q : List UInt8) : wild (42 :: (r ++ q)) s = stars q := by
  rw [← wild_nil_right, Bool.eq_iff_iff]
  constructor
  · intro hw
    rw [wild_star, suff_iff] at hw
    obtain ⟨a, b, rfl, hb⟩ := hw
    obtain ⟨c, d, rfl, h1, h2⟩ := wild_run_split h _ _ hb
    have hl := runs_len h
    simp only [List.length_append] at hl
    have : d = [] := by apply List.eq_nil_of_length_eq_zero; omega
    rw [this] at h2; exact h2
  · intro hw
    rw [wild_star, suff_iff]
    exact ⟨[], s, rfl, by have := wild_runs h q []; rw [List.append_nil] at this; rw [this]; exact hw⟩

end Go.Proofs.YtabobdmgjmgifaaDoor
