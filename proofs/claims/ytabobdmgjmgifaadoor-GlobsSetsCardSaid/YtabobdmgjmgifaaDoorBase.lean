/-
  Common ground of the walks: what a slice of strings reads as; small facts on bytes, indexes, and worlds.
-/
import Derived.Test.YtabobdmgjmgifaaDoorRows
import Derived.WalkKit
import Derived.WalkSpells
import Derived.WalkLawsBesides
import Derived.Deep.QuietTactic
import Derived.BigQuiet
import Derived.Outline
import Derived.Lib.Hide
import Derived.Lib.TrimByte
import Derived.Deep.RegionWith
namespace Go.Proofs.YtabobdmgjmgifaaDoor
open Go.RowKit

theorem ret_bool {a b : Bool} (h : a = b) : Ending.returned (.bool a) = .returned (.bool b) := by rw [h]
theorem ret_int {k : IntKind} {a b : Int} (h : a = b) : Ending.returned (.int k a) = .returned (.int k b) := by rw [h]
theorem get_data (p : ByteArray) (i : Nat) (h : i < p.size) : p.data.toList[i]? = some p[i] := by
  rw [Array.getElem?_toList, Array.getElem?_eq_getElem h]; rfl
theorem len_data (p : ByteArray) : p.data.toList.length = p.size := Array.length_toList
theorem drop_data (p : ByteArray) (i : Nat) : (p.extract i p.size).data.toList = p.data.toList.drop i := by
  rw [Lib.extract_data, List.take_of_length_le (by rw [List.length_drop, len_data]; omega)]
theorem u8_eq {a b : UInt8} : ((a.toNat : Int) == (b.toNat : Int)) = (a == b) := by
  rw [Bool.eq_iff_iff, beq_iff_eq, beq_iff_eq, Int.ofNat_inj, UInt8.toNat_inj]
theorem u8_eq_num {a : UInt8} {n : Nat} (hn : n < 256) : ((a.toNat : Int) == (n : Int)) = (a == UInt8.ofNat n) := by
  rw [Bool.eq_iff_iff, beq_iff_eq, beq_iff_eq, Int.ofNat_inj, ← UInt8.toNat_inj, UInt8.toNat_ofNat', Nat.mod_eq_of_lt hn]
theorem bytes_ext {a b : ByteArray} (h : a.data.toList = b.data.toList) : a = b := by
  cases a; cases b; simp only [ByteArray.mk.injEq]; exact Array.toList_inj.1 h

/-- THE STRINGS OF A SLICE: its address (nil, where there are none) and what its cells hold. -/
def StrsAt (w : World) (a : Option Addr) (l : List ByteArray) : Prop :=
  ∀ (j : Nat) x, l[j]? = some x → ∃ b off, a = some ⟨b, off, none⟩ ∧ w.cell? ⟨b, off + j, none⟩ = some (.string x)
theorem block_of_cell {w : World} {b off : Nat} {v : Value} (h : w.cell? ⟨b, off, none⟩ = some v) : b < w.heap.size := by
  unfold World.cell? at h
  by_cases hb : b < w.heap.size
  · exact hb
  · rw [Array.getElem?_eq_none (by simpa using hb)] at h
    cases h
theorem StrsAt.below {w w' : World} {a : Option Addr} {l : List ByteArray} (h : StrsAt w a l) (hb : Below w.heap.size w w') : StrsAt w' a l := by
  intro j x hx
  obtain ⟨b, off, ha, hc⟩ := h j x hx
  exact ⟨b, off, ha, by rw [hb.cell (p := ⟨b, off + j, none⟩) (block_of_cell hc)]; exact hc⟩
theorem StrsAt.nil (w : World) (a : Option Addr) : StrsAt w a [] := by intro j x h; cases h
theorem StrsAt.at {w : World} {a : Option Addr} {l : List ByteArray} (h : StrsAt w a l) {k : Nat} (hk : k < l.length) :
    ∃ b off, a = some ⟨b, off, none⟩ ∧ w.cell? ⟨b, off + k, none⟩ = some (.string l[k]) := h k _ (List.getElem?_eq_getElem hk)

/-- What a function hands on to whoever looks for the first of a row: q k, of the element at k; I, what stands when k have been asked. -/
def Found (q : Nat → Bool) (n : Nat) (I : Nat → World → Prop) (e : Ending) (w : World) : Prop :=
  (∃ i, i < n ∧ q i = true ∧ (∀ j, j < i → q j = false) ∧ e = .returned (.int .i64 (i : Nat)) ∧ I (i + 1) w) ∨
    ((∀ j, j < n → q j = false) ∧ e = .returned (.int .i64 (-1)) ∧ I n w)
def FoundB (q : Nat → Bool) (n : Nat) (I : Nat → World → Prop) (e : Ending) (w : World) : Prop :=
  (∃ i, i < n ∧ q i = true ∧ (∀ j, j < i → q j = false) ∧ e = .returned (.bool true) ∧ I (i + 1) w) ∨
    ((∀ j, j < n → q j = false) ∧ e = .returned (.bool false) ∧ I n w)

end Go.Proofs.YtabobdmgjmgifaaDoor
