/-
  Plain law: the orders that labels and named values are sorted by are strict weak orders; what the kit's sort promises of an array, told of its list. No program in sight.
  Plain law: the comparisons of texts and of labels. No program in sight.
-/
import Derived.Sort.Statements
import Derived.Lib.Bytealg
import Derived.Test.YthknljeffpbbmaaGreatDoorMBindFits
namespace Go.Proofs.YthknljeffpbbmaaGreatDoor
open Go Go.RowKit

/-- A label's two texts, in plain words. -/
def labelOf (x : ByteArray × ByteArray) : LabelP := ⟨x.1.data.toList, x.2.data.toList⟩
def cfLabel (x y : ByteArray × ByteArray) : Int := if labelLt (labelOf x) (labelOf y) = true then -1 else if labelLt (labelOf y) (labelOf x) = true then 1 else 0
theorem cfLabel_lt (x y : ByteArray × ByteArray) : decide (cfLabel x y < 0) = labelLt (labelOf x) (labelOf y) := by
  unfold cfLabel
  cases h1 : labelLt (labelOf x) (labelOf y) <;> cases h2 : labelLt (labelOf y) (labelOf x) <;> simp
theorem swo_label : Sort.SWO fun x y => decide (cfLabel x y < 0) where
  irrefl x := by rw [cfLabel_lt]; exact labelLt_irrefl _
  trans x y z h1 h2 := by rw [cfLabel_lt] at *; exact labelLt_trans h1 h2
  ntrans x y z h1 h2 := by
    rw [cfLabel_lt] at *
    have g1 : labelLe (labelOf y) (labelOf x) = true := by rw [labelLe_lt, h1]; rfl
    have g2 : labelLe (labelOf z) (labelOf y) = true := by rw [labelLe_lt, h2]; rfl
    have g := labelLe_trans _ _ _ g2 g1
    rw [labelLe_lt, Bool.not_eq_true'] at g
    exact g
/-- By names alone. -/
def cfName (a b : List UInt8) : Int := if a < b then -1 else if b < a then 1 else 0
theorem cfName_lt (a b : List UInt8) : decide (cfName a b < 0) = decide (a < b) := by
  unfold cfName
  by_cases h1 : a < b <;> by_cases h2 : b < a <;> simp [h1, h2]
theorem swo_name {α : Type} (f : α → List UInt8) : Sort.SWO fun x y => decide (cfName (f x) (f y) < 0) where
  irrefl x := by rw [cfName_lt]; simp [List.lt_irrefl]
  trans x y z h1 h2 := by rw [cfName_lt, decide_eq_true_eq] at *; exact List.lt_trans h1 h2
  ntrans x y z h1 h2 := by
    rw [cfName_lt, decide_eq_false_iff_not, List.not_lt] at *
    exact List.le_trans h2 h1
theorem permIn_list {α : Type} [Inhabited α] {d d' : Array α} (h : Sort.PermIn 0 d.size d d') : d'.toList.Perm d.toList := by
  have h3 := h.2.2
  rw [Array.extract_size] at h3
  rw [← h.1, Array.extract_size] at h3
  exact h3
theorem sortedIn_list {α : Type} [Inhabited α] {lt : α → α → Bool} {d : Array α} (h : Sort.SortedIn lt 0 d.size d) : d.toList.Pairwise fun a b => lt b a = false := by
  rw [List.pairwise_iff_getElem]
  intro i j hi hj hij
  have := h i j (Nat.zero_le _) hij (by simpa using hj)
  rw [getElem!_pos d j (by simpa using hj), getElem!_pos d i (by simpa using hi)] at this
  simpa using this
end Go.Proofs.YthknljeffpbbmaaGreatDoor
namespace Go.Proofs.YthknljeffpbbmaaGreatDoor
open Go Go.RowKit

theorem compare_name : ∀ (a b : List UInt8), Lib.compareBytes a b = cfName a b
  | [], [] => rfl
  | [], y :: t => rfl
  | x :: s, [] => rfl
  | x :: s, y :: t => by
    unfold Lib.compareBytes
    rw [compare_name s t]
    unfold cfName
    simp only [List.cons_lt_cons_iff]
    by_cases h1 : x < y
    · simp [h1]
    · by_cases h2 : y < x
      · have h3 : ¬ x = y := fun e => by rw [e] at h2; exact UInt8.lt_irrefl _ h2
        simp [h1, h2, h3]
      · have he : x = y := UInt8.le_antisymm (UInt8.not_lt.1 h2) (UInt8.not_lt.1 h1)
        subst he
        simp [h1]
/-- The first of two comparisons that is not nought. -/
theorem less_plain (a b : LabelP) : decide ((if cfName a.pkg b.pkg = 0 then cfName a.name b.name else cfName a.pkg b.pkg) < 0) = labelLt a b := by
  unfold labelLt
  by_cases h1 : a.pkg < b.pkg
  · have h0 : cfName a.pkg b.pkg = -1 := by unfold cfName; rw [if_pos h1]
    simp [h0, h1]
  · by_cases h2 : b.pkg < a.pkg
    · have h0 : cfName a.pkg b.pkg = 1 := by unfold cfName; rw [if_neg h1, if_pos h2]
      have h3 : ¬ a.pkg = b.pkg := fun e => by rw [e] at h2; exact List.lt_irrefl _ h2
      simp [h0, h1, h3]
    · have h0 : cfName a.pkg b.pkg = 0 := by unfold cfName; rw [if_neg h1, if_neg h2]
      have he := bytes_tri _ _ h1 h2
      rw [if_pos h0, cfName_lt, he]
      simp [List.lt_irrefl]
end Go.Proofs.YthknljeffpbbmaaGreatDoor
