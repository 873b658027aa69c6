/-
  A slice of strings that came in, as the walks want it.
-/
import Derived.Test.YtabobdmgjmgifaaDoorLift
import Derived.SliceStrings
import Derived.Carry
namespace Go.Proofs.YtabobdmgjmgifaaDoor
open Go Go.ChangeShapes Go.WideShapes Go.ChangeAt Go.RowKit

theorem lt_of_cell {w : World} {a : Addr} {v : Value} (h : w.cell? a = some v) : a.spot = none := by
  unfold World.cell? at h
  split at h
  · split at h
    · cases h
    · rename_i hs; simpa using hs
  · cases h

theorem cellsStr : Tryd.prog.cellsOf 9 = 1 := by kernel_rfl
theorem typesStrs : 28 < Tryd.prog.types.size := of_decide_eq_true (by kernel_rfl)
theorem readStrs : Tryd.prog.readableRec 28 = true := by kernel_rfl
set_option maxRecDepth 100000 in
theorem open_strsAt {H : Type} {enc : TypeId × Value → H} {W : World} {base : Nat} {v : Value} {d : DataW H} {p : List MemPlace} (hv : Value.okWide Tryd.prog W .any base 28 v)
    (h : DataW.Trod enc Tryd.prog W 0 (fun _ => true) true 28 v d p) : ∃ a cap l, v = .slice a l.length cap ∧ StrsAt W a l ∧ l.length ≤ maxLen ∧ ∀ x ∈ l, x.size ≤ maxLen := by
  obtain ⟨a0, len, cap, rfl⟩ := okWide_slice Tryd.underlying28 hv
  obtain ⟨fuel, hf⟩ := h
  rcases open_strings Tryd.underlying28 Tryd.underlying9 cellsStr hf with ⟨hcs, hx⟩ | ⟨a, len', cap', ss, hcs, _, hl, hm, hz, hx, hcell, hsz⟩
  · simp [Value.cells] at hcs
    obtain ⟨rfl, rfl, rfl⟩ := hcs
    exact ⟨none, 0, [], rfl, StrsAt.nil _ _, Nat.zero_le _, fun x hx => by cases hx⟩
  · simp [Value.cells] at hcs
    obtain ⟨rfl, rfl, rfl⟩ := hcs
    simp only [if_true] at hz
    obtain ⟨b, off, spot⟩ := a
    refine ⟨_, _, ss.take len, by rw [List.length_take, Nat.min_eq_left (by omega)], ?_, by rw [List.length_take]; omega, fun x hx => hsz x (List.mem_of_mem_take hx)⟩
    intro j X hX
    have hj : j < len := by
      have := (List.getElem?_eq_some_iff.1 hX).1
      simp at this
      omega
    have hspot : spot = none := by simpa [Addr.add] using lt_of_cell (hcell 0 (by omega))
    subst hspot
    refine ⟨b, off, rfl, ?_⟩
    have hX' : ss.getD j ByteArray.empty = X := by
      rw [List.getElem?_take_of_lt hj] at hX
      simp [List.getD, hX]
    rw [← hX']
    have := hcell j (by omega)
    by_cases h0 : j = 0
    · subst h0; simpa [Addr.add] using this
    · simpa [Addr.add, h0] using this

theorem laidOutAll : laidOutB Tryd.prog = true := by kernel_rfl
theorem back_strs {H : Type} {enc : TypeId × Value → H} {W W' : World} {v : Value} {d : DataW H} {p : List MemPlace} (h : DataW.Trod enc Tryd.prog W 0 (fun _ => true) true 28 v d p) (hb : Below W.heap.size W W') (hlt : ∀ x ∈ p, x.block < W.heap.size) :
    DataW.Trod enc Tryd.prog W' 0 (fun b => decide (b < W.heap.size)) true 28 v d p := Below.trod laidOutAll readStrs typesStrs h hb hlt
end Go.Proofs.YtabobdmgjmgifaaDoor
