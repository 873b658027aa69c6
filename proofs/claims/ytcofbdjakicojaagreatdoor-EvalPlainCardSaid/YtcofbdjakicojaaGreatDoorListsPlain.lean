/-
  Plain law: what is joined, made lines of, sorted, and counted. No program in sight.
-/
import Derived.Test.YtcofbdjakicojaaGreatDoorMSix
import Derived.Lib.Join
import Derived.Sort.KeysCollected
namespace Go.Proofs.YtcofbdjakicojaaGreatDoor
open Go Go.RowKit
open List renaming getElem?_eq_getElem → lgE, length_append → lnA, take_add_one → ltA, length_map → lnM, length_take → lnT
open Nat renaming le_refl → nlr
def joinGo (sep : ByteArray) (l : List ByteArray) : Nat → ByteArray
 | 0 => ⟨#[]⟩
 | j + 1 => (if 0 < j then joinGo sep l j ++ sep else joinGo sep l j) ++ (l[j]?).getD ⟨#[]⟩
def linesGo (l : List ByteArray) : Nat → ByteArray
 | 0 => ⟨#[]⟩
 | j + 1 => linesGo l j ++ ((l[j]?).getD ⟨#[]⟩ ++ ⟨#[10]⟩)
theorem My (sep : List UInt8) (r : List (List UInt8)) (y : List UInt8) : Lib.joinTail sep (r ++ [y]) = Lib.joinTail sep r ++ (sep ++ y) := by
 simp [Lib.joinTail]
theorem Nm (sep : List UInt8) (l : List (List UInt8)) (y : List UInt8) : Lib.join (l ++ [y]) sep = if 0 < l.length then Lib.join l sep ++ sep ++ y else y := by
 cases l with
 | nil => simp [Lib.join_one]
 | cons x r =>
  rw [List.cons_append, Lib.join_cons, Lib.join_cons, My];simp
theorem Gy (sep : ByteArray) (l : List ByteArray) : ∀ j, j ≤ l.length → (joinGo sep l j).data.toList = Lib.join ((l.take j).map (·.data.toList)) sep.data.toList
 | 0, _ => rfl
 | j + 1, h => by
  have ih := Gy sep l j (by omega);have hj : j < l.length := (by omega);rw [ltA, lgE hj, Option.toList_some, List.map_append, List.map_cons, List.map_nil, Nm, joinGo, lgE hj, Option.getD_some, lnM, lnT, Nat.min_eq_left (by omega)];split
  ·simp [ih]
  ·have : j = 0 := (by omega);subst this;simp [joinGo]
theorem Ga (l : List ByteArray) : ∀ j, j ≤ l.length → (linesGo l j).data.toList = ((l.take j).map (fun s => s.data.toList ++ [10])).flatten
 | 0, _ => rfl
 | j + 1, h => by
  have ih := Ga l j (by omega);have hj : j < l.length := (by omega);rw [ltA, lgE hj, Option.toList_some, List.map_append, List.map_cons, List.map_nil, linesGo, lgE hj, Option.getD_some, List.flatten_append];simp [ih]
theorem R0 (sep : ByteArray) (l : List ByteArray) : joinGo sep l l.length = ⟨(Lib.join (l.map (·.data.toList)) sep.data.toList).toArray⟩ := by
 have h := Gy sep l l.length (nlr _);rw [List.take_length] at h;rw [← h]
theorem P9 (l : List ByteArray) : linesGo l l.length = ⟨((l.map (fun s => s.data.toList ++ [10])).flatten).toArray⟩ := by
 have h := Ga l l.length (nlr _);rw [List.take_length] at h;rw [← h]
def totL (l : List ByteArray) : Nat := (l.map (fun s => s.size + 1)).sum
theorem Nn (l : List ByteArray) (j : Nat) (h : j < l.length) : totL (l.take (j + 1)) = totL (l.take j) + (l[j].size + 1) := by
 unfold totL;rw [ltA, lgE h, Option.toList_some, List.map_append, List.sum_append];simp
theorem J0 (l : List ByteArray) : ((l.map (fun s => s.data.toList ++ [10])).flatten).length = totL l := by
 induction l with
 | nil => rfl
 | cons x t ih =>
  rw [List.map_cons, List.flatten_cons, lnA, ih];unfold totL;rw [List.map_cons, List.sum_cons, lnA, ← Af];rfl
theorem Ot (sep : List UInt8) (r : List (List UInt8)) : (Lib.joinTail sep r).length = r.length * sep.length + (r.map List.length).sum := by
 induction r with
 | nil => simp [Lib.joinTail]
 | cons x t ih =>
  have : Lib.joinTail sep (x :: t) = (sep ++ x) ++ Lib.joinTail sep t := (by simp [Lib.joinTail]);rw [this, lnA, ih];simp [Nat.add_mul];omega
theorem Es (sep : List UInt8) (l : List (List UInt8)) : (Lib.join l sep).length = (l.length - 1) * sep.length + (l.map List.length).sum := by
 cases l with
 | nil => simp [Lib.join_nil]
 | cons x r =>
  rw [Lib.join_cons, lnA, Ot];simp;omega
def sortL (l : List ByteArray) : List ByteArray := ((l.map (·.data.toList)).mergeSort leB).map fun b => ⟨b.toArray⟩
theorem I0 (l : List ByteArray) : (sortL l).map (·.data.toList) = (l.map (·.data.toList)).mergeSort leB := by
 rw [sortL, List.map_map]
 conv => rhs; rw [← List.map_id ((l.map (·.data.toList)).mergeSort leB)]
 exact List.map_congr_left (fun b _ => by simp)
theorem L5 (l : List ByteArray) : ((sortL l).map (·.data.toList)).Perm (l.map (·.data.toList)) := by rw [I0]; exact List.mergeSort_perm _ _
theorem J1 (l : List ByteArray) : (sortL l).length = l.length := by
 have := (L5 l).length_eq
 simpa using this
theorem Uj {l : List ByteArray} {x : ByteArray} (h : x ∈ sortL l) : ∃ y ∈ l, y.data.toList = x.data.toList := by
 have := (L5 l).mem_iff (a := x.data.toList);have h1 := this.1 (List.mem_map_of_mem h);obtain ⟨y, hy, he⟩ := List.mem_map.1 h1;exact ⟨y, hy, he⟩
def cntL (l : List ByteArray) (j k : Nat) (b : List UInt8) : Int := (((l.take j).map (·.data.toList)).count b : Int) - ((((sortL l).take k).map (·.data.toList)).count b : Int)
end Go.Proofs.YtcofbdjakicojaaGreatDoor