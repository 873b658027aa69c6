/-
  An own row of structs as the library's sort wants it, and as it leaves it.
-/
import Derived.Shelf.SlSortCmp.NoneTotal
import Derived.Test.YthknljeffpbbmaaGreatDoorMCloneD
import Derived.Test.YthknljeffpbbmaaGreatDoorMLabelPlain
namespace Go.Proofs.YthknljeffpbbmaaGreatDoor
open Go Go.RowKit Go.Sort

section
variable {α : Type} [Inhabited α] {enc : α → List Value} {k : Nat}
theorem flat_list (hk : ∀ x, (enc x).length = k) (k0 : 0 < k) (xs : List α) : (xs.map enc).flatten = (flatK enc k xs.toArray).toList := by
  have hsz : ∀ cs ∈ xs.map enc, cs.length = k := fun cs h => by obtain ⟨x, -, rfl⟩ := List.mem_map.1 h; exact hk x
  have hl : (xs.map enc).flatten.length = xs.length * k := by rw [flatten_len hsz, List.length_map]
  apply List.ext_getElem
  · have h9 : (flatK enc k xs.toArray).toList.length = xs.length * k := by rw [Array.length_toList, size_flatK, List.size_toArray]
    rw [hl, h9]
  · intro t h1 h2
    rw [hl] at h1
    have hq : t / k < xs.length := (Nat.div_lt_iff_lt_mul k0).2 h1
    have hr : t % k < k := Nat.mod_lt _ k0
    have ht : t / k * k + t % k = t := by rw [Nat.mul_comm]; exact Nat.div_add_mod t k
    have h3 : (xs.map enc)[t / k]? = some (enc xs[t / k]) := by rw [List.getElem?_map, List.getElem?_eq_getElem hq]; rfl
    have h4 : (enc xs[t / k])[t % k]? = some ((enc xs[t / k])[t % k]'(by rw [hk]; exact hr)) := List.getElem?_eq_getElem _
    have h5 := flatten_get hsz h3 h4
    rw [ht, List.getElem?_eq_getElem (by rw [hl]; exact h1)] at h5
    rw [Option.some.inj h5]
    symm
    have h6 := get_flatK enc k xs.toArray t (by rw [List.size_toArray]; exact h1)
    rw [getElem!_pos _ t (by rw [size_flatK, List.size_toArray]; exact h1)] at h6
    refine Eq.trans (Array.getElem_toList _) ?_
    rw [h6, getElem!_pos xs.toArray (t / k) (by rw [List.size_toArray]; exact hq)]
    simp only [List.getElem_toArray]
    rw [getElem!_pos (enc xs[t / k]) (t % k) (by rw [hk]; exact hr)]
theorem holdsK_of_own (hk : ∀ x, (enc x).length = k) (k0 : 0 < k) {w : World} {base : Nat} {e : TypeId} {g n c : Nat} {xs : List α} (h : w.ownsRow base e k (.slice (some ⟨g, 0, none⟩) n c) xs.length (xs.map enc).flatten) :
    HoldsK enc k w g 0 xs.toArray ∧ base ≤ g ∧ g < w.heap.size := by
  rw [flat_list hk k0] at h
  obtain ⟨-, ⟨h1, -⟩ | ⟨g', cap, cur, h1, hg, hb, hc, -, hs, ht⟩⟩ := h
  · cases h1
  · cases h1
    obtain ⟨hlt, hcell, hfz⟩ := block_facts hb
    refine ⟨fun t htl => ?_, hg, hlt⟩
    rw [size_flatK, List.size_toArray] at htl
    refine ⟨?_, hfz _⟩
    have hn : xs.length * k ≤ c * k := Nat.mul_le_mul_right _ hc
    rw [hcell, Nat.zero_add, getElem!_pos _ t (by rw [size_flatK, List.size_toArray]; exact htl)]
    have h2 : (cur.toList.take (xs.length * k))[t]? = (flatK enc k xs.toArray).toList[t]? := by rw [ht]
    rw [List.getElem?_take_of_lt htl, Array.getElem?_toList, Array.getElem?_toList] at h2
    rw [h2, Array.getElem?_eq_getElem]
    rfl
theorem own_of_sorted (hk : ∀ x, (enc x).length = k) (k0 : 0 < k) {w : World} {base : Nat} {e : TypeId} {g n c : Nat} {xs : List α} (h : w.ownsRow base e k (.slice (some ⟨g, 0, none⟩) n c) xs.length (xs.map enc).flatten) {d : Array α} (hd : d.size = xs.length) (m : Nat) (os : Array Obj) :
    (sortWorldK enc k w g 0 m d os).ownsRow base e k (.slice (some ⟨g, 0, none⟩) n c) xs.length (d.toList.map enc).flatten ∧ w.grownBy (sortWorldK enc k w g 0 m d os) (some g) := by
  obtain ⟨h0, ⟨h1, -⟩ | ⟨g', cap, cur, h1, hg, hb, hc, hcm, hs, ht⟩⟩ := h
  · cases h1
  · cases h1
    have hlt := (Array.getElem?_eq_some_iff.1 hb).1
    have hblk : (sortWorldK enc k w g 0 m d os).heap[g]? = some (.cells (putCells id 0 (flatK enc k d) cur) e (0, 0)) := by
      unfold sortWorldK grow putRowK putRow mapBlock
      show ((w.heap.modify g _) ++ os)[g]? = _
      rw [Array.getElem?_append_left (by simpa using hlt), Array.getElem?_modify, if_pos rfl, hb]
      rfl
    have hfl : (d.toList.map enc).flatten = (flatK enc k d).toList := by rw [flat_list hk k0]
    have hn : xs.length * k ≤ c * k := Nat.mul_le_mul_right _ hc
    refine ⟨⟨?_, .inr ⟨g, c, _, rfl, hg, hblk, hc, hcm, ?_, ?_⟩⟩, rfl, rfl, rfl, ?_, ?_⟩
    · rw [hfl, Array.length_toList, size_flatK, hd]
    · unfold putCells
      rw [Array.size_mapIdx]
      exact hs
    · rw [hfl]
      apply List.ext_getElem?
      intro t
      by_cases htl : t < xs.length * k
      · rw [List.getElem?_take_of_lt htl, Array.getElem?_toList, Array.getElem?_toList]
        unfold putCells
        rw [Array.getElem?_mapIdx, Array.getElem?_eq_getElem (by rw [hs]; omega), Option.map_some, if_pos ⟨Nat.zero_le _, by rw [size_flatK, hd, Nat.zero_add]; exact htl⟩, Nat.sub_zero, getElem!_pos _ t (by rw [size_flatK, hd]; exact htl), Array.getElem?_eq_getElem]
        rfl
      · rw [List.getElem?_eq_none (by rw [List.length_take]; omega), List.getElem?_eq_none (by rw [Array.length_toList, size_flatK, hd]; omega)]
    · unfold sortWorldK grow putRowK putRow mapBlock
      show w.heap.size ≤ ((w.heap.modify g _) ++ os).size
      simp
    · intro i hi hne
      unfold sortWorldK grow putRowK putRow mapBlock
      show ((w.heap.modify g _) ++ os)[i]? = _
      rw [Array.getElem?_append_left (by simpa using hi), Array.getElem?_modify, if_neg (fun e => hne (by rw [e]))]
end
end Go.Proofs.YthknljeffpbbmaaGreatDoor
