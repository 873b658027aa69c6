/-
  Plain law: a text cut at a sign. No program in sight.
  The parts of a cut text are no longer than it.
  Replacing from the left, byte for byte, is the library's ReplaceAll.
-/
import Derived.Lib.Bytealg
import Derived.Lib.SplitLaws
import Derived.Lib.Replace
import Derived.Lib.CountLaws
namespace Go.Proofs.YtcofbdjakicojaaGreatDoor
open List renaming length_cons → lnC
def cutAt (c : UInt8) : List UInt8 → List (List UInt8)
 | [] => [[]]
 | x :: t => if x = c then [] :: cutAt c t else (x :: (cutAt c t).headD []) :: (cutAt c t).tail
theorem cutAt_ne (c : UInt8) (s : List UInt8) : cutAt c s ≠ [] := by
 cases s with
 | nil => simp [cutAt]
 | cons x t => unfold cutAt; split <;> simp
theorem D7 (c : UInt8) (s : List UInt8) : (cutAt c s).headD [] :: (cutAt c s).tail = cutAt c s := by
 cases h : cutAt c s with
 | nil => exact absurd h (cutAt_ne c s)
 | cons a l => rfl
theorem Im (c : UInt8) (s : List UInt8) (h : c ∉ s) : cutAt c s = [s] := by
 induction s with
 | nil => rfl
 | cons x t ih =>
  simp only [List.mem_cons, not_or] at h;unfold cutAt;rw [if_neg (fun e => h.1 e.symm), ih h.2]; rfl
theorem T0 (c : UInt8) (a b : List UInt8) (h : c ∉ a) : cutAt c (a ++ c :: b) = a :: cutAt c b := by
 induction a with
 | nil => simp [cutAt]
 | cons x t ih =>
  simp only [List.mem_cons, not_or] at h;have e : cutAt c ((x :: t) ++ c :: b) = (x :: (cutAt c (t ++ c :: b)).headD []) :: (cutAt c (t ++ c :: b)).tail := by
   rw [List.cons_append, cutAt, if_neg (fun e => h.1 e.symm)]
  rw [e, ih h.2]; rfl
theorem F5 (c : UInt8) (s : List UInt8) : (cutAt c s).length = s.count c + 1 := by
 induction s with
 | nil => rfl
 | cons x t ih =>
  unfold cutAt;split
  ·rename_i h; subst h; simp [ih]
  ·rename_i h
   have := congrArg List.length (D7 c t);simp only [lnC] at this ⊢;rw [this, ih, List.count_cons_of_ne h]
theorem indexByte_hit {s : List UInt8} {c : UInt8} {i : Nat} (h : Lib.indexByte s c = i) : i < s.length ∧ s[i]? = some c ∧ c ∉ s.take i := by
 induction s generalizing i with
 | nil => simp [Lib.indexByte] at h
 | cons x t ih =>
  unfold Lib.indexByte at h;by_cases hx : x = c
  ·subst hx; simp at h; obtain rfl : i = 0 := (by omega);simp
  ·rw [if_neg (by simpa using hx)] at h;by_cases hm : Lib.indexByte t c = -1
   ·rw [if_pos (by simpa using hm)] at h; omega
   ·rw [if_neg (by simpa using hm)] at h;have hg := Lib.indexByte_ge t c;obtain ⟨k, hk⟩ : ∃ k : Nat, Lib.indexByte t c = k := ⟨(Lib.indexByte t c).toNat, by omega⟩;obtain rfl : i = k + 1 := (by omega);obtain ⟨h1, h2, h3⟩ := ih hk;refine ⟨by simp; omega, by simpa using h2, ?_⟩;simp only [List.take_succ_cons, List.mem_cons, not_or];exact ⟨fun e => hx e.symm, h3⟩
theorem Lq {s : List UInt8} {c : UInt8} (h : Lib.indexByte s c = -1) : c ∉ s := by
 induction s with
 | nil => simp
 | cons x t ih =>
  unfold Lib.indexByte at h;by_cases hx : x = c
  ·subst hx; simp at h
  ·rw [if_neg (by simpa using hx)] at h;by_cases hm : Lib.indexByte t c = -1
   ·simp only [List.mem_cons, not_or]; exact ⟨fun e => hx e.symm, ih hm⟩
   ·rw [if_neg (by simpa using hm)] at h;have hg := Lib.indexByte_ge t c;omega
theorem La {s : List UInt8} {c : UInt8} {i : Nat} (h : Lib.indexByte s c = i) : cutAt c s = s.take i :: cutAt c (s.drop (i + 1)) := by
 obtain ⟨h1, h2, h3⟩ := indexByte_hit h;have hs : s = s.take i ++ c :: s.drop (i + 1) := by
  obtain ⟨h4, h5⟩ := List.getElem?_eq_some_iff.1 h2;rw [← h5, ← List.drop_eq_getElem_cons h4, List.take_append_drop]
 rw [congrArg (cutAt c) hs];exact T0 _ _ _ h3
theorem Gt {s : List UInt8} {c : UInt8} (h : Lib.indexByte s c = -1) : cutAt c s = [s] := Im _ _ (Lq h)
end Go.Proofs.YtcofbdjakicojaaGreatDoor
namespace Go.Proofs.YtcofbdjakicojaaGreatDoor
open Go
open List renaming mem_cons_self → lmS, mem_cons_of_mem → lmO, length_cons → lnC
open Nat renaming le_refl → nlr
theorem I9 (c : UInt8) (s : List UInt8) : ∀ p ∈ cutAt c s, p.length ≤ s.length := by
 induction s with
 | nil => intro p hp; simp [cutAt] at hp; subst hp; simp
 | cons x t ih =>
  intro p hp;unfold cutAt at hp;split at hp
  ·rcases List.mem_cons.1 hp with rfl | hp
   ·simp
   ·have := ih p hp; simp; omega
  ·rw [← D7 c t] at ih;rcases List.mem_cons.1 hp with rfl | hp
   ·have := ih _ (lmS ..); simp at this ⊢; omega
   ·have := ih p (lmO _ hp); simp; omega
def Fz (a b : List UInt8) : Nat → List UInt8 → List UInt8
 | 0, s => s
 | _ + 1, [] => []
 | f + 1, c :: t => if a.isPrefixOf (c :: t) then b ++ Fz a b f ((c :: t).drop a.length) else c :: Fz a b f t
theorem G6 (a b : List UInt8) (ha : a ≠ []) : ∀ (f : Nat) (s : List UInt8), s.length ≤ f → Fz a b f s = Lib.replaceK a b (Lib.count s a) s
 | 0, s, h => by
  obtain rfl : s = [] := List.length_eq_zero_iff.1 (by omega);have hi : Lib.index [] a = -1 := (by unfold Lib.index; cases a with | nil => exact absurd rfl ha | cons x t => rfl);rw [Lib.count_miss hi];rfl
 | f + 1, [], _ => by
  have hi : Lib.index [] a = -1 := (by unfold Lib.index; cases a with | nil => exact absurd rfl ha | cons x t => rfl);rw [Lib.count_miss hi];rfl
 | f + 1, c :: t, h => by
  have hal : 1 ≤ a.length := List.length_pos_iff.2 ha;rw [lnC] at h;unfold Fz;split
  ·rename_i hp
   have hi : Lib.index (c :: t) a = (0 : Nat) := (by unfold Lib.index; rw [if_pos hp]; rfl);rw [Lib.count_hit ha hi, Nat.add_comm 1, Lib.replaceK_hit _ _ _ _ 0 hi, Nat.zero_add, List.take_zero, List.nil_append];rw [G6 a b ha f _ (by rw [List.length_drop, lnC]; omega)]
  ·rename_i hp
   have hi0 : Lib.index (c :: t) a = if Lib.index t a == -1 then -1 else Lib.index t a + 1 := (by rw [Lib.index]; rw [if_neg hp]);rw [G6 a b ha f t (by omega)];by_cases hm : Lib.index t a = -1
   ·rw [if_pos (by rw [hm]; rfl)] at hi0;rw [Lib.count_miss hi0, Lib.count_miss hm];rfl
   ·obtain ⟨i, hi⟩ : ∃ i : Nat, Lib.index t a = i := ⟨(Lib.index t a).toNat, by have := Lib.index_ge t a; omega⟩;rw [if_neg (by rw [beq_iff_eq]; exact hm), hi] at hi0;have hi1 : Lib.index (c :: t) a = ((i + 1 : Nat) : Int) := (by rw [hi0]; omega);rw [Lib.count_hit ha hi, Lib.count_hit ha hi1, Nat.add_comm 1, Nat.add_comm 1, Lib.replaceK_hit _ _ _ _ i hi, Lib.replaceK_hit _ _ _ _ (i + 1) hi1];rw [show i + 1 + a.length = (i + a.length) + 1 by omega, List.drop_succ_cons, List.take_succ_cons];rfl
theorem Ka (a : List UInt8) : ∀ (f : Nat) (s : List UInt8), Fz a a f s = s
 | 0, s => rfl
 | f + 1, [] => rfl
 | f + 1, c :: t => by
  unfold Fz;split
  ·rename_i hp
   rw [Ka a f];obtain ⟨z, hz⟩ := List.isPrefixOf_iff_prefix.1 hp;rw [← hz, List.drop_left]
  ·rw [Ka a f]
theorem scan_all (a b s : List UInt8) (ha : a ≠ []) : Fz a b s.length s = Lib.replaceAll s a b := by
 unfold Lib.replaceAll Lib.replace;split
 ·rename_i h
  rw [eq_of_beq h, Ka]
 ·rw [G6 a b ha _ s (nlr _)]
  congr 1
end Go.Proofs.YtcofbdjakicojaaGreatDoor
