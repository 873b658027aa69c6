/-
  A struct of an own row, written anew.
  What the library's Clone answers, of rows of structs: what it asks of the row, and the own row that comes of it.
-/
import Derived.Laws.IdiomCopy
import Derived.Test.YthknljeffpbbmaaGreatDoorMSame0
namespace Go.Proofs.YthknljeffpbbmaaGreatDoor
open Go Go.RowKit

def wrote : Array Value → Nat → List Value → Array Value
  | c, _, [] => c
  | c, o, v :: r => wrote (c.setIfInBounds o v) (o + 1) r
theorem wrote_size : ∀ (vs : List Value) (c : Array Value) (o : Nat), (wrote c o vs).size = c.size
  | [], _, _ => rfl
  | v :: r, c, o => by rw [wrote, wrote_size r, Array.size_setIfInBounds]
theorem wrote_get : ∀ (vs : List Value) (c : Array Value) (o k : Nat), o + vs.length ≤ c.size → (wrote c o vs)[k]? = if o ≤ k ∧ k < o + vs.length then vs[k - o]? else c[k]?
  | [], c, o, k, _ => by
    rw [wrote, if_neg (by simp only [List.length_nil]; omega)]
  | v :: r, c, o, k, h => by
    rw [List.length_cons] at h
    rw [wrote, wrote_get r _ _ _ (by rw [Array.size_setIfInBounds]; omega), List.length_cons]
    by_cases h1 : o + 1 ≤ k ∧ k < o + 1 + r.length
    · rw [if_pos h1, if_pos (by omega), show k - o = k - (o + 1) + 1 by omega, List.getElem?_cons_succ]
    · rw [if_neg h1]
      by_cases h2 : k = o
      · subst h2
        rw [if_pos (by omega), Nat.sub_self, List.getElem?_cons_zero, Array.getElem?_setIfInBounds_self_of_lt (by omega)]
      · rw [if_neg (by omega), Array.getElem?_setIfInBounds_ne (fun e => h2 e.symm)]
theorem setCells_block (g : Nat) : ∀ (vs : List Value) (o : Nat) (w : World) (cur : Array Value) (e : TypeId) (fz : Nat × Nat), w.heap[g]? = some (.cells cur e fz) → (w.setCells g o vs).heap[g]? = some (.cells (wrote cur o vs) e fz)
  | [], _, _, _, _, _, h => h
  | v :: r, o, w, cur, e, fz, h => by
    rw [World.setCells, wrote]
    refine setCells_block g r (o + 1) _ _ e fz ?_
    simp [World.setCell, Array.getElem?_modify, h]
theorem setCells_other (g k : Nat) (hk : k ≠ g) : ∀ (vs : List Value) (o : Nat) (w : World), (w.setCells g o vs).heap[k]? = w.heap[k]?
  | [], _, _ => rfl
  | v :: r, o, w => by rw [World.setCells, setCells_other g k hk r, Below.heap_setCell _ _ _ _ hk]
theorem setCells_size (g : Nat) : ∀ (vs : List Value) (o : Nat) (w : World), (w.setCells g o vs).heap.size = w.heap.size
  | [], _, _ => rfl
  | v :: r, o, w => by rw [World.setCells, setCells_size g r]; simp [World.setCell]
theorem flatten_len {css : List (List Value)} {size : Nat} (hsz : ∀ cs ∈ css, cs.length = size) : css.flatten.length = css.length * size := by
  induction css with
  | nil => simp
  | cons c t ih =>
    rw [List.flatten_cons, List.length_append, ih fun cs h => hsz cs (List.mem_cons_of_mem _ h), hsz c (List.mem_cons_self ..), List.length_cons, Nat.add_mul]
    omega
/-- One struct of an own row is written. -/
theorem OwnD.put {F : Nat → Prop} {w : World} {base : Nat} {e : TypeId} {size g n cap : Nat} {l : List (List Dat)} (h : OwnD F w base e size (.slice (some ⟨g, 0, none⟩) n cap) l) (h0 : 0 < size) {j : Nat} (hj : j < l.length) {ds : List Dat} {cs : List Value} (hcs : cs.length = size)
    (hd : AggAt (fun b => F b ∧ b ≠ g) w ds cs) : OwnD F (w.setCells g (j * size) cs) base e size (.slice (some ⟨g, 0, none⟩) n cap) (l.set j ds) := by
  obtain ⟨css, hlen, hsz, ⟨h1, ⟨h2, -⟩ | ⟨g', cap', cur, h2, h3, h4, h5, h6, h7, h8⟩⟩, hall⟩ := h
  · cases h2
  · injection h2 with e1 e2 e3
    injection e1 with e1
    injection e1 with e1
    subst e1
    subst e3
    have hst : ∀ b, (F b ∧ b ≠ g) → b < w.heap.size → (F b ∧ b ≠ g) ∧ b < (w.setCells g (j * size) cs).heap.size ∧ (w.setCells g (j * size) cs).heap[b]? = w.heap[b]? :=
      fun b hb hl => ⟨hb, by rw [setCells_size]; exact hl, setCells_other g b hb.2 _ _ _⟩
    have hjn : (j + 1) * size ≤ l.length * size := Nat.mul_le_mul_right _ (by omega)
    have hcn : l.length * size ≤ cap * size := Nat.mul_le_mul_right _ h5
    have hroom : j * size + cs.length ≤ cur.size := by rw [hcs, h7]; rw [Nat.add_mul] at hjn; omega
    have hsz' : ∀ c ∈ css.set j cs, c.length = size := fun c hc => by
      rcases List.mem_or_eq_of_mem_set hc with h | rfl
      · exact hsz c h
      · exact hcs
    refine ⟨css.set j cs, by rw [List.length_set, List.length_set, hlen], hsz', ⟨?_, .inr ⟨g, cap, wrote cur (j * size) cs, by rw [List.length_set, ← e2], h3, setCells_block g cs _ w cur e _ h4, by rw [List.length_set]; exact h5, h6, by rw [wrote_size, h7], ?_⟩⟩, ?_⟩
    · rw [flatten_len hsz', List.length_set, List.length_set, hlen]
    · apply List.ext_getElem?
      intro k
      rw [List.length_set]
      by_cases hk : k < l.length * size
      · rw [List.getElem?_take_of_lt hk, Array.getElem?_toList, wrote_get _ _ _ _ hroom, hcs]
        have hq : k / size < l.length := (Nat.div_lt_iff_lt_mul h0).2 hk
        have hr : k % size < size := Nat.mod_lt _ h0
        have hkq : k = k / size * size + k % size := by rw [Nat.mul_comm]; exact (Nat.div_add_mod k size).symm
        by_cases hqj : k / size = j
        · have hs1 : (css.set j cs)[j]? = some cs := by rw [List.getElem?_set_self (by omega)]
          have hs2 : cs[k % size]? = some (cs[k % size]'(by omega)) := List.getElem?_eq_getElem (by omega)
          have hfl := flatten_get hsz' hs1 hs2
          rw [hqj] at hkq
          rw [← hkq] at hfl
          rw [if_pos (by omega), hfl, show k - j * size = k % size by omega, hs2]
        · have hc1 : css[k / size]? = some (css[k / size]'(by omega)) := List.getElem?_eq_getElem (by omega)
          have hcl := hsz _ (List.getElem_mem (by omega : k / size < css.length))
          have hc2 : (css[k / size]'(by omega))[k % size]? = some ((css[k / size]'(by omega))[k % size]'(by omega)) := List.getElem?_eq_getElem (by omega)
          have hf1 := flatten_get hsz hc1 hc2
          have hf2 := flatten_get hsz' (css := css.set j cs) (j := k / size) (by rw [List.getElem?_set_ne (fun h => hqj h.symm)]; exact hc1) hc2
          rw [← hkq] at hf1 hf2
          have hno : ¬ (j * size ≤ k ∧ k < j * size + size) := by
            rintro ⟨a1, a2⟩
            apply hqj
            have : k < (j + 1) * size := by rw [Nat.add_mul]; omega
            exact Nat.le_antisymm (Nat.lt_succ_iff.1 ((Nat.div_lt_iff_lt_mul h0).2 this)) ((Nat.le_div_iff_mul_le h0).2 a1)
          rw [if_neg hno, hf2, ← hf1, ← h8, List.getElem?_take_of_lt hk]
          exact (Array.getElem?_toList ..).symm
      · rw [List.getElem?_eq_none (by rw [List.length_take]; omega), List.getElem?_eq_none (by rw [flatten_len hsz', List.length_set, hlen]; omega)]
    · intro i ds' cs' hi hc
      by_cases hij : j = i
      · subst hij
        rw [List.getElem?_set_self hj] at hi
        rw [List.getElem?_set_self (by omega)] at hc
        cases hi
        cases hc
        refine (hd.mono hst).wider fun b hb _ => ⟨hb.1, fun e => hb.2 (by injection e with e; exact e.symm)⟩
      · rw [List.getElem?_set_ne hij] at hi hc
        exact (hall i ds' cs' hi hc).mono fun b hb hl => ⟨hb, by rw [setCells_size]; exact hl, setCells_other g b (fun e => hb.2 (by rw [e]; rfl)) _ _ _⟩
end Go.Proofs.YthknljeffpbbmaaGreatDoor
namespace Go.Proofs.YthknljeffpbbmaaGreatDoor
open Go Go.RowKit

/-- A row's cells, one behind the other, and what a call's own row of just these cells is. -/
theorem RowAt.cloned {F : Nat → Prop} {w : World} {b off size : Nat} {l : List (List Dat)} (h : RowAt F w (some ⟨b, off, none⟩) l) (h0 : 0 < size) (hsz : ∀ ds ∈ l, ds.length = size) (hp : ∀ ds ∈ l, PlainD ds) :
    ∃ news : List Value, news.length = l.length * size ∧ (∀ j u, news[j]? = some u → w.cell? ⟨b, off + j, none⟩ = some u) ∧ (∀ u ∈ news, u.oneCell' = true) ∧
      ∀ (e : TypeId) (v : Value) (w' : World), w'.ownsRow w.heap.size e size v l.length news → Below w.heap.size w w' → OwnD F w' w.heap.size e size v l := by
  obtain ⟨css, hlen, hcs, hagg, hcell⟩ := h.cells hsz
  refine ⟨css.flatten, by rw [flatten_len hcs, hlen], fun j u hj => ?_, fun u hu => ?_, fun e v w' hown hb => ⟨css, hlen, hcs, hown, fun j ds cs h1 h2 => ?_⟩⟩
  · obtain ⟨q, r, cs, rfl, h1, h2⟩ : ∃ q r cs, j = q * size + r ∧ css[q]? = some cs ∧ cs[r]? = some u := by
      have hjl := (List.getElem?_eq_some_iff.1 hj).1
      rw [flatten_len hcs] at hjl
      have hq : j / size < css.length := (Nat.div_lt_iff_lt_mul h0).2 hjl
      have hr : j % size < size := Nat.mod_lt _ h0
      have hjq : j = j / size * size + j % size := by rw [Nat.mul_comm]; exact (Nat.div_add_mod j size).symm
      have h1 : css[j / size]? = some (css[j / size]) := List.getElem?_eq_getElem hq
      have hl := hcs _ (List.getElem_mem hq)
      have h2 : (css[j / size])[j % size]? = some ((css[j / size])[j % size]'(by omega)) := List.getElem?_eq_getElem (by omega)
      have := flatten_get hcs h1 h2
      rw [← hjq, hj] at this
      exact ⟨_, _, _, hjq, h1, by rw [h2, Option.some.inj this]⟩
    rw [← Nat.add_assoc]
    exact hcell q cs h1 r u h2
  · obtain ⟨cs, hc, hu⟩ := List.mem_flatten.1 hu
    obtain ⟨j, hj⟩ := List.getElem?_of_mem hc
    have hjl := (List.getElem?_eq_some_iff.1 hj).1
    have hd : l[j]? = some (l[j]'(by omega)) := List.getElem?_eq_getElem (by omega)
    exact (hagg j _ cs hd hj).oneCells (hp _ (List.mem_of_getElem? hd)) u hu
  · refine (hagg j ds cs h1 h2).mono fun b' hb' hl => ⟨⟨hb', fun e => ?_⟩, by have := hb.size; omega, hb.block b' hl⟩
    obtain ⟨-, ⟨rfl, -⟩ | ⟨g, cap, cur, rfl, hg, -⟩⟩ := hown
    · cases e
    · have : g = b' := by simpa [Value.ownBlock] using e
      omega
theorem valD_plain (v : Vl) : PlainD (valD v) := by
  obtain ⟨k, n, s, l, ks⟩ := v
  intro u hu
  simp only [valD, List.mem_cons, List.not_mem_nil, or_false, Dat.one.injEq, reduceCtorEq] at hu
  rcases hu with rfl | rfl | rfl <;> rfl
theorem valsD_all {p : List Dat → Prop} (h : ∀ v, p (valD v)) (l : List Vl) : ∀ ds ∈ valsD l, p ds := by
  intro ds hds
  rw [valsD_map] at hds
  obtain ⟨v, -, rfl⟩ := List.mem_map.1 hds
  exact h v
end Go.Proofs.YthknljeffpbbmaaGreatDoor
