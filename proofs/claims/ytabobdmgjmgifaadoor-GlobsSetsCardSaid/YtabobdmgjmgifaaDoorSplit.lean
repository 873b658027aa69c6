/-
  strings.Split at one sign gives the text's pieces; globs.May.
-/
import Derived.Test.YtabobdmgjmgifaaDoorPart
namespace Go.Proofs.YtabobdmgjmgifaaDoor
open Go.RowKit

theorem splitK_cut (c : UInt8) : ∀ (k : Nat) (s : List UInt8), s.count c = k → Lib.splitK [c] 0 k s = cutAt c s := by
  intro k
  induction k with
  | zero =>
    intro s h
    exact (cutAt_none c s (List.count_eq_zero.1 h)).symm
  | succ k ih =>
    intro s h
    have hm : c ∈ s := List.count_pos_iff.1 (by omega)
    have hne : Lib.indexByte s c ≠ -1 := fun e => indexByte_miss e hm
    have hge := Lib.indexByte_ge s c
    obtain ⟨i, hi⟩ : ∃ i : Nat, Lib.indexByte s c = i := ⟨(Lib.indexByte s c).toNat, by omega⟩
    obtain ⟨h1, h2, h3⟩ := indexByte_hit hi
    rw [Lib.splitK, Lib.index_one, if_neg (by simpa using hne), hi, cutAt_indexByte hi]
    simp only [Int.toNat_natCast, Nat.add_zero, List.length_cons, List.length_nil, Nat.zero_add]
    rw [ih]
    have hs : s = s.take i ++ c :: s.drop (i + 1) := by
      obtain ⟨h4, h5⟩ := List.getElem?_eq_some_iff.1 h2
      rw [← h5, ← List.drop_eq_getElem_cons h4, List.take_append_drop]
    have hc := congrArg (List.count c) hs
    rw [h, List.count_append, List.count_eq_zero.2 h3, List.count_cons_self] at hc
    omega
theorem splitB_cut (c : UInt8) (s : ByteArray) : (Lib.splitB ⟨#[c]⟩ 0 (Lib.countB s ⟨#[c]⟩) s).map (·.data.toList) = cutAt c s.data.toList := by
  rw [Lib.splitB_data]
  exact splitK_cut c _ _ (by unfold Lib.countB; exact (Lib.count_one c _).symm)
theorem countB_cut (c : UInt8) (s : ByteArray) : Lib.countB s ⟨#[c]⟩ + 1 = (cutAt c s.data.toList).length := by
  rw [cutAt_length]; unfold Lib.countB; rw [show (⟨#[c]⟩ : ByteArray).data.toList = [c] from rfl, Lib.count_one]

/-- What is known of the package variable that strings.Split asks for. -/
def Std (w : World) : Prop := ∃ m, w.cell? ⟨0, 0, none⟩ = some (.int .i64 m)
theorem Std.below {w w' : World} (h : Std w) (hb : Below w.heap.size w w') : Std w' := by
  obtain ⟨m, hm⟩ := h
  exact ⟨m, (hb.cell (p := ⟨0, 0, none⟩) (block_of_cell hm)).trans hm⟩

/-- What Split gives: a slice of the pieces. -/
def PSplit (c : UInt8) (s : ByteArray) (w : World) (e : Ending) (w' : World) : Prop :=
  ∃ l : List ByteArray, e = .returned (.slice (some ⟨w.heap.size, 0, none⟩) l.length l.length) ∧ l.map (·.data.toList) = cutAt c s.data.toList ∧ StrsAt w' (some ⟨w.heap.size, 0, none⟩) l ∧ Below w.heap.size w w' ∧ w'.heap.size = w.heap.size + 1 ∧
    (∀ x ∈ l, x.size ≤ s.size)

theorem cutAt_len_le (c : UInt8) (s : List UInt8) : ∀ p ∈ cutAt c s, p.length ≤ s.length := by
  induction s with
  | nil => intro p hp; simp [cutAt] at hp; subst hp; simp
  | cons x t ih =>
    intro p hp
    unfold cutAt at hp
    split at hp
    · rcases List.mem_cons.1 hp with rfl | hp
      · simp
      · have := ih p hp; simp; omega
    · rw [← cutAt_head_tail c t] at ih
      rcases List.mem_cons.1 hp with rfl | hp
      · have := ih _ (List.mem_cons_self ..); simp at this ⊢; omega
      · have := ih p (List.mem_cons_of_mem _ hp); simp; omega

theorem split_any (c : UInt8) (s : ByteArray) (w : World) (hs : s.size < 4294967281) (hw : Std w) :
    Calls Tryd.prog 24 #[.string s, .string ⟨#[c]⟩] w (PSplit c s w) := by
  obtain ⟨m, hm⟩ := hw
  refine (Tryd.strings_Split s ⟨#[c]⟩ m w hs hm (Nat.le_refl _)).mono ?_
  rintro e w' ⟨rfl, rfl⟩
  have hcut := splitB_cut c s
  have hlen : (Lib.splitB ⟨#[c]⟩ 0 (Lib.countB s ⟨#[c]⟩) s).length = Lib.countB s ⟨#[c]⟩ + 1 := by
    have := congrArg List.length hcut
    rw [List.length_map] at this
    rw [this, countB_cut]
  refine ⟨_, by rw [hlen], hcut, ?_, (Below.refl _ w).alloc (Nat.le_refl _) _, by simp, ?_⟩
  · intro j x hx
    refine ⟨w.heap.size, 0, rfl, ?_⟩
    have hj := (List.getElem?_eq_some_iff.1 hx).1
    simp only [World.cell?, World.alloc_heap_new]
    simp [hx]
  · intro x hx
    have := cutAt_len_le c s.data.toList x.data.toList (by rw [← hcut]; exact List.mem_map_of_mem hx)
    rw [len_data, len_data] at this; exact this

end Go.Proofs.YtabobdmgjmgifaaDoor
