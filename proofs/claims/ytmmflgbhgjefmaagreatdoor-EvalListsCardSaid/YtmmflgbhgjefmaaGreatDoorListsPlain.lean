/-
  Plain law: what is joined, made lines of, sorted, and counted. No program in sight.
-/
import Derived.Test.YtmmflgbhgjefmaaGreatDoorMOwnS
import Derived.Lib.Join
import Derived.Sort.KeysCollected
namespace Go.Proofs.YtmmflgbhgjefmaaGreatDoor
open Go Go.RowKit

/-- What is joined of the first ones, as the statement does it. -/
def joinGo (sep : ByteArray) (l : List ByteArray) : Nat → ByteArray
  | 0 => ⟨#[]⟩
  | j + 1 => (if 0 < j then joinGo sep l j ++ sep else joinGo sep l j) ++ (l[j]?).getD ⟨#[]⟩
def linesGo (l : List ByteArray) : Nat → ByteArray
  | 0 => ⟨#[]⟩
  | j + 1 => linesGo l j ++ ((l[j]?).getD ⟨#[]⟩ ++ ⟨#[10]⟩)

theorem joinTail_snoc (sep : List UInt8) (r : List (List UInt8)) (y : List UInt8) : Lib.joinTail sep (r ++ [y]) = Lib.joinTail sep r ++ (sep ++ y) := by
  simp [Lib.joinTail]
theorem join_snoc (sep : List UInt8) (l : List (List UInt8)) (y : List UInt8) : Lib.join (l ++ [y]) sep = if 0 < l.length then Lib.join l sep ++ sep ++ y else y := by
  cases l with
  | nil => simp [Lib.join_one]
  | cons x r =>
    rw [List.cons_append, Lib.join_cons, Lib.join_cons, joinTail_snoc]
    simp
theorem joinGo_join (sep : ByteArray) (l : List ByteArray) : ∀ j, j ≤ l.length → (joinGo sep l j).data.toList = Lib.join ((l.take j).map (·.data.toList)) sep.data.toList
  | 0, _ => rfl
  | j + 1, h => by
    have ih := joinGo_join sep l j (by omega)
    have hj : j < l.length := by omega
    rw [List.take_add_one, List.getElem?_eq_getElem hj, Option.toList_some, List.map_append, List.map_cons, List.map_nil, join_snoc, joinGo, List.getElem?_eq_getElem hj, Option.getD_some, List.length_map, List.length_take, Nat.min_eq_left (by omega)]
    split
    · simp [ih]
    · have : j = 0 := by omega
      subst this
      simp [joinGo]
theorem linesGo_data (l : List ByteArray) : ∀ j, j ≤ l.length → (linesGo l j).data.toList = ((l.take j).map (fun s => s.data.toList ++ [10])).flatten
  | 0, _ => rfl
  | j + 1, h => by
    have ih := linesGo_data l j (by omega)
    have hj : j < l.length := by omega
    rw [List.take_add_one, List.getElem?_eq_getElem hj, Option.toList_some, List.map_append, List.map_cons, List.map_nil, linesGo, List.getElem?_eq_getElem hj, Option.getD_some, List.flatten_append]
    simp [ih]
theorem joinGo_all (sep : ByteArray) (l : List ByteArray) : joinGo sep l l.length = ⟨(Lib.join (l.map (·.data.toList)) sep.data.toList).toArray⟩ := by
  have h := joinGo_join sep l l.length (Nat.le_refl _)
  rw [List.take_length] at h
  rw [← h]
theorem linesGo_all (l : List ByteArray) : linesGo l l.length = ⟨((l.map (fun s => s.data.toList ++ [10])).flatten).toArray⟩ := by
  have h := linesGo_data l l.length (Nat.le_refl _)
  rw [List.take_length] at h
  rw [← h]

/-- How great texts are, together. -/
def totL (l : List ByteArray) : Nat := (l.map (fun s => s.size + 1)).sum
theorem totL_take (l : List ByteArray) (j : Nat) (h : j < l.length) : totL (l.take (j + 1)) = totL (l.take j) + (l[j].size + 1) := by
  unfold totL
  rw [List.take_add_one, List.getElem?_eq_getElem h, Option.toList_some, List.map_append, List.sum_append]
  simp
theorem totL_mem {l : List ByteArray} {s : ByteArray} (h : s ∈ l) : s.size + 1 ≤ totL l := by
  induction l with
  | nil => cases h
  | cons x t ih =>
    rcases List.mem_cons.1 h with rfl | h
    · simp [totL]
    · have := ih h
      simp [totL] at this ⊢
      omega
theorem lines_len (l : List ByteArray) : ((l.map (fun s => s.data.toList ++ [10])).flatten).length = totL l := by
  induction l with
  | nil => rfl
  | cons x t ih =>
    rw [List.map_cons, List.flatten_cons, List.length_append, ih]
    unfold totL
    rw [List.map_cons, List.sum_cons, List.length_append, ← len_data]
    rfl
theorem joinTail_len (sep : List UInt8) (r : List (List UInt8)) : (Lib.joinTail sep r).length = r.length * sep.length + (r.map List.length).sum := by
  induction r with
  | nil => simp [Lib.joinTail]
  | cons x t ih =>
    have : Lib.joinTail sep (x :: t) = (sep ++ x) ++ Lib.joinTail sep t := by simp [Lib.joinTail]
    rw [this, List.length_append, ih]
    simp [Nat.add_mul]
    omega
theorem join_len (sep : List UInt8) (l : List (List UInt8)) : (Lib.join l sep).length = (l.length - 1) * sep.length + (l.map List.length).sum := by
  cases l with
  | nil => simp [Lib.join_nil]
  | cons x r =>
    rw [Lib.join_cons, List.length_append, joinTail_len]
    simp
    omega

/-- The texts sorted. -/
def sortL (l : List ByteArray) : List ByteArray := ((l.map (·.data.toList)).mergeSort leB).map fun b => ⟨b.toArray⟩
theorem sortL_data (l : List ByteArray) : (sortL l).map (·.data.toList) = (l.map (·.data.toList)).mergeSort leB := by
  rw [sortL, List.map_map]
  conv => rhs; rw [← List.map_id ((l.map (·.data.toList)).mergeSort leB)]
  exact List.map_congr_left (fun b _ => by simp)
theorem sortL_perm (l : List ByteArray) : ((sortL l).map (·.data.toList)).Perm (l.map (·.data.toList)) := by rw [sortL_data]; exact List.mergeSort_perm _ _
theorem sortL_len (l : List ByteArray) : (sortL l).length = l.length := by
  have := (sortL_perm l).length_eq
  simpa using this
theorem sortL_mem {l : List ByteArray} {x : ByteArray} (h : x ∈ sortL l) : ∃ y ∈ l, y.data.toList = x.data.toList := by
  have := (sortL_perm l).mem_iff (a := x.data.toList)
  have h1 := this.1 (List.mem_map_of_mem h)
  obtain ⟨y, hy, he⟩ := List.mem_map.1 h1
  exact ⟨y, hy, he⟩
theorem leB_trans (a b c : List UInt8) (h1 : leB a b = true) (h2 : leB b c = true) : leB a c = true := by
  simp only [leB, decide_eq_true_eq] at *; exact List.le_trans h1 h2
theorem leB_total (a b : List UInt8) : (leB a b || leB b a) = true := by
  simp only [leB, Bool.or_eq_true, decide_eq_true_eq]; exact List.le_total a b
theorem sortL_rises (l : List ByteArray) (j : Nat) (hj : j + 1 < (sortL l).length) : (sortL l)[j].data.toList ≤ (sortL l)[j + 1].data.toList := by
  have hp := List.pairwise_mergeSort leB_trans leB_total (l.map (·.data.toList))
  rw [← sortL_data, List.pairwise_map] at hp
  have := List.pairwise_iff_getElem.1 hp j (j + 1) (by omega) hj (by omega)
  simpa [leB] using this

/-- How often a text is met among the first ones, less how often among the first ones sorted. -/
def cntL (l : List ByteArray) (j k : Nat) (b : List UInt8) : Int := (((l.take j).map (·.data.toList)).count b : Int) - ((((sortL l).take k).map (·.data.toList)).count b : Int)
theorem cntL_up (l : List ByteArray) (j k : Nat) (h : j < l.length) (b : List UInt8) : cntL l (j + 1) k b = if b = l[j].data.toList then cntL l j k b + 1 else cntL l j k b := by
  unfold cntL
  rw [List.take_add_one, List.getElem?_eq_getElem h, Option.toList_some, List.map_append, List.count_append, List.map_cons, List.map_nil, List.count_singleton]
  by_cases hb : b = l[j].data.toList
  · subst hb; simp; omega
  · rw [if_neg hb, if_neg (by simpa using fun h => hb h.symm)]; simp
theorem cntL_down (l : List ByteArray) (j k : Nat) (h : k < (sortL l).length) (b : List UInt8) : cntL l j (k + 1) b = if b = (sortL l)[k].data.toList then cntL l j k b - 1 else cntL l j k b := by
  unfold cntL
  rw [List.take_add_one, List.getElem?_eq_getElem h, Option.toList_some, List.map_append, List.count_append, List.map_cons, List.map_nil, List.count_singleton]
  by_cases hb : b = (sortL l)[k].data.toList
  · subst hb; simp; omega
  · rw [if_neg hb, if_neg (by simpa using fun h => hb h.symm)]; simp
theorem cntL_bound (l : List ByteArray) (j k : Nat) (b : List UInt8) : -(l.length : Int) ≤ cntL l j k b ∧ cntL l j k b ≤ l.length := by
  unfold cntL
  have h1 := List.count_le_length (a := b) (l := (l.take j).map (·.data.toList))
  have h2 := List.count_le_length (a := b) (l := ((sortL l).take k).map (·.data.toList))
  simp only [List.length_map, List.length_take, sortL_len] at h1 h2
  omega
theorem cntL_end (l : List ByteArray) (b : List UInt8) : cntL l l.length l.length b = 0 := by
  unfold cntL
  rw [List.take_length, List.take_of_length_le (by rw [sortL_len]; exact Nat.le_refl _), (sortL_perm l).count_eq]
  omega
end Go.Proofs.YtmmflgbhgjefmaaGreatDoor
