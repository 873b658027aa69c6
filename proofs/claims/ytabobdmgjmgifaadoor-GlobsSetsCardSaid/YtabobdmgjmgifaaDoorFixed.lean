/-
  The walks of both Fixed: what all that a pattern matches begin with.
-/
import Derived.Test.YtabobdmgjmgifaaDoorRefGMay
namespace Go.Proofs.YtabobdmgjmgifaaDoor
open Go Go.RowKit

def noWild (x : UInt8) : Bool := !(x == 42) && !(x == 63)
/-- What is fixed of a pattern. -/
def gfixed (l : List UInt8) : List UInt8 := if gmay l then l.takeWhile noWild else []

def PStrBelow (l : List UInt8) (w : World) (e : Ending) (w' : World) : Prop := ∃ r : ByteArray, e = .returned (.string r) ∧ r.data.toList = l ∧ Below w.heap.size w w'

theorem takeWhile_hit {l : List UInt8} {k : Nat} {x : UInt8} (h : ∀ j, j < k → ∀ y, l[j]? = some y → noWild y = true) (hk : l[k]? = some x) (hx : noWild x = false) : l.takeWhile noWild = l.take k := by
  induction k generalizing l with
  | zero =>
    cases l with
    | nil => simp at hk
    | cons y t => simp at hk; subst hk; rw [List.takeWhile_cons_of_neg (by simp [hx])]; rfl
  | succ k ih =>
    cases l with
    | nil => simp at hk
    | cons y t =>
      rw [List.takeWhile_cons_of_pos (h 0 (by omega) y rfl), List.take_succ_cons, ih (fun j hj z hz => h (j + 1) (by omega) z (by simpa using hz)) (by simpa using hk)]
theorem takeWhile_all {l : List UInt8} (h : ∀ j, j < l.length → ∀ y, l[j]? = some y → noWild y = true) : l.takeWhile noWild = l := by
  induction l with
  | nil => rfl
  | cons y t ih =>
    rw [List.takeWhile_cons_of_pos (h 0 (by simp) y rfl), ih (fun j hj z hz => h (j + 1) (by simp; omega) z (by simpa using hz))]
theorem noWild_of {x : UInt8} (h1 : ((x.toNat : Int) == 42) = false) (h2 : ((x.toNat : Int) == 63) = false) : noWild x = true := by
  have e1 := (u8_eq_num (a := x) (n := 42) (by omega)).symm.trans h1
  have e2 := (u8_eq_num (a := x) (n := 63) (by omega)).symm.trans h2
  unfold noWild
  rw [show (x == 42) = false from e1, show (x == 63) = false from e2]; rfl
theorem wild_of_42 {x : UInt8} (h1 : ((x.toNat : Int) == 42) = true) : noWild x = false := by
  have e1 := (u8_eq_num (a := x) (n := 42) (by omega)).symm.trans h1
  unfold noWild
  rw [show (x == 42) = true from e1]; rfl
theorem wild_of_63 {x : UInt8} (h2 : ((x.toNat : Int) == 63) = true) : noWild x = false := by
  have e2 := (u8_eq_num (a := x) (n := 63) (by omega)).symm.trans h2
  unfold noWild
  rw [show (x == 63) = true from e2, Bool.and_comm]; rfl
def NoWildUpto (l : List UInt8) (k : Nat) : Prop := ∀ j, j < k → ∀ y, l[j]? = some y → noWild y = true
theorem NoWildUpto.next {l : List UInt8} {k : Nat} {x : UInt8} (h : NoWildUpto l k) (hx : l[k]? = some x) (hn : noWild x = true) : NoWildUpto l (k + 1) := by
  intro j hj y hy
  by_cases hjk : j = k
  · subst hjk; rw [hx] at hy; cases hy; exact hn
  · exact h j (by omega) y hy

set_option maxRecDepth 100000 in
set_option maxHeartbeats 1000000 in
theorem fixed_any (s : ByteArray) (w : World) (hs : s.size < 4294967281) (hw : Std w) :
    Calls Tryd.prog 13 #[.string s] w (PStrBelow (gfixed s.data.toList) w) := by
  go_enter Tryd.func13, Tryd.ntmps13
  go_wp2_with fail
  refine (gmay_any s _ hs hw).mono ?_
  rintro e w1 ⟨rfl, hb⟩
  cases hm : gmay s.data.toList
  · have Hf : Hid (gfixed s.data.toList = []) := Lib.hid (by unfold gfixed; rw [hm]; rfl)
    clear hm
    go_wp2_with fail
    go_ret
    exact ⟨_, rfl, Hf.out.symm, hb⟩
  have Hf : Hid (gfixed s.data.toList = s.data.toList.takeWhile noWild) := Lib.hid (by unfold gfixed; rw [hm]; rfl)
  clear hm
  go_wp2_with fail
  go_loop [9] (fun i => ∃ k : Nat, i = .int .i64 k ∧ k ≤ s.size ∧ Hid (NoWildUpto s.data.toList k)) (fun i => s.size - (intOf i).toNat)
  case atStart => exact ⟨0, rfl, Nat.zero_le _, Lib.hid (fun j h => absurd h (Nat.not_lt_zero _))⟩
  case round =>
    obtain ⟨k, rfl, hk, hg⟩ := hrel
    by_cases hlt : k < s.size
    · have Hk := Lib.hid (get_data s k hlt)
      cases h42 : ((s[k].toNat : Int) == 42)
      · cases h63 : ((s[k].toNat : Int) == 63)
        · have Hg := Lib.hid (hg.out.next Hk.out (noWild_of h42 h63))
          go_wp2_with fail
          go_round
          case rel => exact ⟨k + 1, by go_num, by omega, Hg⟩
          case measure => simp only [intOf]; omega
        · have Hr : Hid ((s.extract 0 k).data.toList = gfixed s.data.toList) := Lib.hid (by rw [Hf.out, takeWhile_hit hg.out Hk.out (wild_of_63 h63), Lib.extract_data]; simp)
          go_wp2_with fail
          go_ret
          exact ⟨_, rfl, Hr.out, hb⟩
      · have Hr : Hid ((s.extract 0 k).data.toList = gfixed s.data.toList) := Lib.hid (by rw [Hf.out, takeWhile_hit hg.out Hk.out (wild_of_42 h42), Lib.extract_data]; simp)
        go_wp2_with fail
        go_ret
        exact ⟨_, rfl, Hr.out, hb⟩
    · have Hr : Hid (s.data.toList = gfixed s.data.toList) := Lib.hid (by rw [Hf.out]; exact (takeWhile_all (fun j hj => hg.out j (by rw [len_data] at hj; omega))).symm)
      clear hg
      go_wp2_with fail
      go_ret
      exact ⟨_, rfl, Hr.out, hb⟩

set_option maxRecDepth 100000 in
set_option maxHeartbeats 1000000 in
theorem refFixed_any (s : ByteArray) (w : World) (hs : s.size < 4294967281) :
    Calls Tryd.prog 14 #[.string s] w (PStrBelow (gfixed s.data.toList) w) := by
  go_enter Tryd.func14, Tryd.ntmps14
  go_wp2_with fail
  refine (refGmay_any s _ (by omega)).mono ?_
  rintro e w1 ⟨rfl, hb⟩
  cases hm : gmay s.data.toList
  · have Hf : Hid (gfixed s.data.toList = []) := Lib.hid (by unfold gfixed; rw [hm]; rfl)
    clear hm
    go_wp2_with fail
    go_ret
    exact ⟨_, rfl, Hf.out.symm, hb⟩
  have Hf : Hid (gfixed s.data.toList = s.data.toList.takeWhile noWild) := Lib.hid (by unfold gfixed; rw [hm]; rfl)
  clear hm
  go_wp2_with fail
  go_loop [3] (fun i => ∃ k : Nat, i = .int .i64 k ∧ k ≤ s.size ∧ Hid (NoWildUpto s.data.toList k)) (fun i => s.size - (intOf i).toNat)
  case atStart => exact ⟨0, rfl, Nat.zero_le _, Lib.hid (fun j h => absurd h (Nat.not_lt_zero _))⟩
  case round =>
    obtain ⟨k, rfl, hk, hg⟩ := hrel
    by_cases hlt : k < s.size
    · have Hk := Lib.hid (get_data s k hlt)
      cases h42 : ((s[k].toNat : Int) == 42)
      · cases h63 : ((s[k].toNat : Int) == 63)
        · have Hg := Lib.hid (hg.out.next Hk.out (noWild_of h42 h63))
          go_wp2_with fail
          go_round
          case rel => exact ⟨k + 1, by go_num, by omega, Hg⟩
          case measure => simp only [intOf]; omega
        · have Hr : Hid ((s.extract 0 k).data.toList = gfixed s.data.toList) := Lib.hid (by rw [Hf.out, takeWhile_hit hg.out Hk.out (wild_of_63 h63), Lib.extract_data]; simp)
          go_wp2_with fail
          go_ret
          exact ⟨_, rfl, Hr.out, hb⟩
      · have Hr : Hid ((s.extract 0 k).data.toList = gfixed s.data.toList) := Lib.hid (by rw [Hf.out, takeWhile_hit hg.out Hk.out (wild_of_42 h42), Lib.extract_data]; simp)
        go_wp2_with fail
        go_ret
        exact ⟨_, rfl, Hr.out, hb⟩
    · have Hr : Hid (s.data.toList = gfixed s.data.toList) := Lib.hid (by rw [Hf.out]; exact (takeWhile_all (fun j hj => hg.out j (by rw [len_data] at hj; omega))).symm)
      clear hg
      go_wp2_with fail
      go_ret
      exact ⟨_, rfl, Hr.out, hb⟩

end Go.Proofs.YtabobdmgjmgifaaDoor
