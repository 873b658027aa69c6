/-
  A slice of bools that a call makes for itself: what it holds is told by a function.
-/
import Derived.Test.YtabobdmgjmgifaaDoorRefParts
import Derived.Laws.MakeOwn
namespace Go.Proofs.YtabobdmgjmgifaaDoor
open Go Go.RowKit

theorem infoBool : (Tryd.prog.info? 4).map (fun i => (i.zero, i.size, i.bytes)) = some (some (.bool false), 1, 1) := by kernel_rfl

/-- n bools in block g, from base on: place j holds h j. -/
def OwnF (w : World) (base g n : Nat) (h : Nat → Bool) : Prop := w.ownsRow base 4 1 (.slice (some ⟨g, 0, none⟩) n n) n ((List.range n).map fun j => Value.bool (h j))

theorem OwnF.congr {w : World} {base g n : Nat} {h h' : Nat → Bool} (hf : OwnF w base g n h) (e : ∀ j, j < n → h j = h' j) : OwnF w base g n h' := by
  unfold OwnF at *
  rw [show (List.range n).map (fun j => Value.bool (h' j)) = (List.range n).map (fun j => Value.bool (h j)) from List.map_congr_left (fun j hj => by rw [e j (List.mem_range.1 hj)])]
  exact hf
theorem OwnF.cell {w : World} {base g n : Nat} {h : Nat → Bool} (hf : OwnF w base g n h) {j : Nat} (hj : j < n) : w.cell? ⟨g, j, none⟩ = some (.bool (h j)) := by
  rw [hf.cellAt j (by omega)]; simp [hj]
theorem OwnF.frozen {w : World} {base g n : Nat} {h : Nat → Bool} (hf : OwnF w base g n h) (j : Nat) : w.frozen? ⟨g, j, none⟩ = false := hf.frozenAt j
theorem OwnF.base_le {w : World} {base g n : Nat} {h : Nat → Bool} (hf : OwnF w base g n h) : base ≤ g := (hf.lt g rfl).1
theorem OwnF.lt_size {w : World} {base g n : Nat} {h : Nat → Bool} (hf : OwnF w base g n h) : g < w.heap.size := (hf.lt g rfl).2
theorem OwnF.store {w : World} {base g n : Nat} {h : Nat → Bool} (hf : OwnF w base g n h) (k : Nat) (b : Bool) : OwnF (w.setCell ⟨g, k, none⟩ (.bool b)) base g n (fun j => if j = k then b else h j) := by
  have := (World.ownsRow.stored hf k (.bool b)).1
  unfold OwnF
  have e : ((List.range n).map fun j => Value.bool (h j)).set k (.bool b) = (List.range n).map fun j => Value.bool (if j = k then b else h j) := by
    apply List.ext_getElem?
    intro i
    rw [List.getElem?_set]
    simp only [List.length_map, List.length_range, List.getElem?_map]
    by_cases hi : i < n
    · by_cases hik : k = i
      · subst hik; simp [hi]
      · rw [if_neg hik]; simp [hi, Ne.symm hik]
    · by_cases hik : k = i
      · subst hik; simp [hi]
      · rw [if_neg hik]; simp [hi]
  rw [e] at this
  exact this
theorem OwnF.other {w : World} {base g n : Nat} {h : Nat → Bool} (hf : OwnF w base g n h) {g' : Nat} (hg : g ≠ g') (k : Nat) (u : Value) : OwnF (w.setCell ⟨g', k, none⟩ u) base g n h :=
  World.ownsRow.kept hf (w' := w.setCell ⟨g', k, none⟩ u) (row := some g') ⟨rfl, rfl, rfl, by simp, fun j _ hj => Below.heap_setCell _ _ _ _ (fun e => hj (by rw [e]))⟩ (.inr (by simpa [Value.ownBlock] using hg))
theorem OwnF.drewN {w : World} {base g n : Nat} {h : Nat → Bool} (hf : OwnF w base g n h) (m : Nat) : OwnF (w.drewN m) base g n h := hf
theorem OwnF.grown {w w' : World} {base g n : Nat} {h : Nat → Bool} (hf : OwnF w base g n h) (hg : w.grownBy w' none) : OwnF w' base g n h := World.ownsRow.kept hf hg (.inr (by simp [Value.ownBlock]))
theorem OwnF.below {w w' : World} {base g n : Nat} {h : Nat → Bool} (hf : OwnF w base g n h) (hb : Below w.heap.size w w') : OwnF w' base g n h := by
  obtain ⟨h1, h2⟩ := hf
  refine ⟨h1, ?_⟩
  rcases h2 with ⟨h2, h3⟩ | ⟨g', cap, cur, h2, h3, h4, h5⟩
  · cases h2
  · refine .inr ⟨g', cap, cur, h2, h3, ?_, h5⟩
    rw [hb.block g' (Array.getElem?_eq_some_iff.1 h4).1]; exact h4

/-- 'make([]bool, n)', at the operation. -/
theorem wpList_make_bools {w : World} {ops : Array Oper} {rest : List Oper} {o : Oper} {a : Act} {Q : Exit → Act → World → Prop}
    (hgd : o.guard = none) (x y : Operand) (hop : o.op = .makeSlice 42 x y) (base n : Nat) (hn : n ≤ 281474976710656) (hx : a.eval x = .int .i64 n) (hy : a.eval y = .int .i64 n) (hb : base ≤ w.heap.size)
    (h : ∀ w', OwnF w' base w.heap.size n (fun _ => false) → w.grownBy w' none → w'.heap.size = w.heap.size + 1 → wpList Tryd.prog ops Q rest (a.put o.dst (.slice (some ⟨w.heap.size, 0, none⟩) n n)) w') :
    wpList Tryd.prog ops Q (o :: rest) a w := by
  obtain ⟨i0, hi, hz0, hz1, hz2⟩ := info_parts infoBool
  refine wpList_plain hgd fun K' hK' => ?_
  have hr := run_make (P := Tryd.prog) w 42 4 i0 (.bool false) Tryd.underlying42 hi hz0 .i64 .i64 n n (by omega) (by omega) (by rw [hz2]; omega) (by omega)
  unfold Oper.wp
  simp only [Int.toNat_natCast] at hr
  simp only [execOp, hop, hx, hy]
  simp [hr, Result.andThen]
  refine hK' _ _ (h _ ?_ (World.grownBy_alloc w _ none) (by simp))
  have hl := World.ownsRow_lit (base := base) (size := 1) (e := 4) w (madeCells (Value.bool false).cells (n * i0.size)) n hb (by unfold maxLen; omega) (by rw [size_madeCells, hz1])
  have e : (madeCells (Value.bool false).cells (n * i0.size)).toList = (List.range n).map fun _ => Value.bool false := by
    rw [hz1, Nat.mul_one]
    unfold madeCells
    simp [Value.cells, Nat.mod_one]
  rw [e] at hl
  exact hl

end Go.Proofs.YtabobdmgjmgifaaDoor
