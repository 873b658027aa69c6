/-
  The walk of the reference's part of a pattern.
-/
import Derived.Test.YtabobdmgjmgifaaDoorRefMay
namespace Go.Proofs.YtabobdmgjmgifaaDoor
open Go Go.RowKit

def gsgn (x : UInt8) : Bool := psign x.toNat || x == 63 || x == 42
theorem hasPrefix_stars (x : UInt8) (t : List UInt8) : Lib.hasPrefix (x :: t) [42, 42] = true ↔ x = 42 ∧ t[0]? = some 42 := by
  unfold Lib.hasPrefix
  cases t with
  | nil => simp
  | cons y t => simp; exact ⟨fun h => ⟨h.1.symm, h.2.symm⟩, fun h => ⟨h.1.symm, h.2.symm⟩⟩
theorem gsigns_iff (l : List UInt8) : gsigns l = true ↔ (∀ (j : Nat) x, l[j]? = some x → gsgn x = true) ∧ ∀ j : Nat, ¬ (l[j]? = some 42 ∧ l[j + 1]? = some 42) := by
  induction l with
  | nil => simp [gsigns]
  | cons x t ih =>
    unfold gsigns
    rw [Bool.and_eq_true, Bool.and_eq_true, ih, Bool.not_eq_true', Bool.eq_false_iff, Ne, hasPrefix_stars]
    constructor
    · rintro ⟨⟨h1, h2⟩, h3, h4⟩
      refine ⟨fun j y hy => ?_, fun j hj => ?_⟩
      · cases j with
        | zero => simp at hy; subst hy; exact h1
        | succ j => exact h3 j y (by simpa using hy)
      · cases j with
        | zero => exact h2 ⟨by simpa using hj.1, by simpa using hj.2⟩
        | succ j => exact h4 j ⟨by simpa using hj.1, by simpa using hj.2⟩
    · rintro ⟨h1, h2⟩
      exact ⟨⟨h1 0 x rfl, fun h => h2 0 ⟨by simpa using h.1, by simpa using h.2⟩⟩, fun j y hy => h1 (j + 1) y (by simpa using hy), fun j hj => h2 (j + 1) ⟨by simpa using hj.1, by simpa using hj.2⟩⟩

/-- How far the reference has looked. -/
def GsUpto (l : List UInt8) (k : Nat) : Prop := ∀ j, j < k → (∀ x, l[j]? = some x → gsgn x = true) ∧ (∀ i, j = i + 1 → ¬ (l[i]? = some 42 ∧ l[j]? = some 42))
theorem GsUpto.done {l : List UInt8} {k : Nat} (h : GsUpto l k) (hk : l.length ≤ k) : gsigns l = true := by
  rw [gsigns_iff]
  refine ⟨fun j x hx => (h j (by have := (List.getElem?_eq_some_iff.1 hx).1; omega)).1 x hx, fun j hj => ?_⟩
  have := (List.getElem?_eq_some_iff.1 hj.2).1
  exact (h (j + 1) (by omega)).2 j rfl hj
theorem GsUpto.next {l : List UInt8} {k : Nat} {x : UInt8} (h : GsUpto l k) (hx : l[k]? = some x) (hs : gsgn x = true) (hp : ∀ i, k = i + 1 → ¬ (l[i]? = some 42 ∧ l[k]? = some 42)) : GsUpto l (k + 1) := by
  intro j hj
  by_cases hjk : j = k
  · subst hjk
    exact ⟨fun y hy => by rw [hx] at hy; cases hy; exact hs, hp⟩
  · exact h j (by omega)
theorem gs_bad_sign {l : List UInt8} {k : Nat} {x : UInt8} (hx : l[k]? = some x) (hs : gsgn x = false) : gsigns l = false := by
  rw [Bool.eq_false_iff, Ne, gsigns_iff]
  rintro ⟨h, -⟩
  rw [h k x hx] at hs; cases hs
theorem gs_bad_stars {l : List UInt8} {k : Nat} (h1 : l[k]? = some 42) (h2 : l[k + 1]? = some 42) : gsigns l = false := by
  rw [Bool.eq_false_iff, Ne, gsigns_iff]
  rintro ⟨-, h⟩
  exact h k ⟨h1, h2⟩

theorem partOk_ac (c : UInt8) : partOk [97, c] = psign c.toNat := by
  have key : ∀ n : Fin 256, partOk [97, UInt8.ofNat n.val] = psign (UInt8.ofNat n.val).toNat := by decide +kernel
  have h := key ⟨c.toNat, UInt8.toNat_lt c⟩
  have e : UInt8.ofNat c.toNat = c := by simp
  rw [e] at h; exact h

theorem a_one (s : ByteArray) (k : Nat) (h : k < s.size) : (⟨#[97]⟩ ++ s.extract k (k + 1) : ByteArray) = ⟨#[97, s[k]]⟩ := by
  apply bytes_ext
  rw [data_append, one_data s k h]; rfl

set_option maxRecDepth 100000 in
set_option maxHeartbeats 2000000 in
theorem refGpart_any (s : ByteArray) (w : World) (hs : s.size ≤ 4294967296) :
    Calls Tryd.prog 29 #[.string s] w (PSame (.bool (gpart s.data.toList)) w) := by
  cases he : (s.toList == [42, 42])
  case true =>
    go_enter Tryd.func29, Tryd.ntmps29
    go_wp2_with fail
    go_ret
    exact ⟨ret_bool (gpart_stars he).symm, rfl⟩
  have He := Lib.hid he
  by_cases hz : s.size = 0
  · have hf : Hid (gpart s.data.toList = false) := Lib.hid (by
      have : s.data.toList = [] := List.eq_nil_of_length_eq_zero (by rw [len_data]; exact hz)
      rw [this]; rfl)
    have hz' : ((s.size : Int) == 0) = true := by simp [hz]
    clear hz
    go_enter Tryd.func29, Tryd.ntmps29
    go_wp2_with fail
    go_ret
    exact ⟨ret_bool hf.out.symm, rfl⟩
  have hz' : ((s.size : Int) == 0) = false := beq_eq_false_iff_ne.2 (by omega)
  have hz1 : 1 ≤ s.size := by omega
  clear hz
  by_cases h64 : (s.size : Int) ≤ 64
  case neg =>
    have h64' : (64 : Int) < s.size := by omega
    have hf : Hid (gpart s.data.toList = false) := Lib.hid (by
      have h := He.out
      rw [Lib.toList_data] at h
      unfold gpart; rw [h, len_data, decide_eq_false (p := s.size ≤ 64) (by omega)]; simp)
    go_enter Tryd.func29, Tryd.ntmps29
    go_wp2_with fail
    go_ret
    exact ⟨ret_bool hf.out.symm, rfl⟩
  have h64' : ¬ (64 : Int) < s.size := by omega
  cases hd1 : (s.toList == [46])
  case true =>
    have hf : Hid (gpart s.data.toList = false) := Lib.hid (by rw [← Lib.toList_data, beq_iff_eq.1 hd1]; rfl)
    go_enter Tryd.func29, Tryd.ntmps29
    go_wp2_with fail
    go_ret
    exact ⟨ret_bool hf.out.symm, rfl⟩
  cases hd2 : (s.toList == [46, 46])
  case true =>
    have hf : Hid (gpart s.data.toList = false) := Lib.hid (by rw [← Lib.toList_data, beq_iff_eq.1 hd2]; rfl)
    go_enter Tryd.func29, Tryd.ntmps29
    go_wp2_with fail
    go_ret
    exact ⟨ret_bool hf.out.symm, rfl⟩
  have Hbad : Hid (gsigns s.data.toList = false → gpart s.data.toList = false) := Lib.hid (fun h => gpart_bad He.out h)
  have Hgood : Hid (gsigns s.data.toList = true → gpart s.data.toList = true) := Lib.hid (fun h => by
    rw [gpart_good He.out h, hd1, hd2, decide_eq_true (p := (1 : Int) ≤ s.size) (by omega), decide_eq_true (p := (s.size : Int) ≤ 64) h64]; rfl)
  go_enter Tryd.func29, Tryd.ntmps29
  go_wp2_with fail
  go_loop [3, 4] (fun i _ => ∃ k : Nat, i = .int .i64 k ∧ k ≤ s.size ∧ Hid (GsUpto s.data.toList k)) (fun i _ => s.size - (intOf i).toNat)
  case atStart => exact ⟨0, rfl, Nat.zero_le _, Lib.hid (fun j h => absurd h (Nat.not_lt_zero _))⟩
  case round =>
    obtain ⟨k, rfl, hk, hg⟩ := hrel
    by_cases hlt : k < s.size
    · have Hk := Lib.hid (get_data s k hlt)
      cases h42 : ((s[k].toNat : Int) == 42)
      · have Hn42 : Hid (s.data.toList[k]? ≠ some 42) := Lib.hid (by rw [Hk.out]; intro h; rw [Option.some.inj h] at h42; cases h42)
        cases h63 : ((s[k].toNat : Int) == 63)
        · have Hsgn : Hid (gsgn s[k] = psign s[k].toNat) := Lib.hid (by
            have e1 := (u8_eq_num (a := s[k]) (n := 42) (by omega)).symm.trans h42
            have e2 := (u8_eq_num (a := s[k]) (n := 63) (by omega)).symm.trans h63
            unfold gsgn
            rw [show (s[k] == 63) = false from e2, show (s[k] == 42) = false from e1]; simp)
          by_cases hk0 : 0 < k
          all_goals
            go_wp2_with fail
            rw [a_one s k hlt]
            refine (refPart_any _ _ (by show 2 ≤ _; omega)).mono ?_
            rintro e w2 ⟨rfl, hw2⟩
            obtain rfl : w = w2 := hw2.symm
            have Hpo := Lib.hid (partOk_ac s[k])
            cases hp : partOk [97, s[k]]
            · have Hf := Lib.hid (Hbad.out (gs_bad_sign Hk.out (by rw [Hsgn.out, ← Hpo.out, hp])))
              clear hp
              go_wp2_with fail
              go_ret
              exact ⟨ret_bool Hf.out.symm, rfl⟩
            · have Hg := Lib.hid (hg.out.next Hk.out (by rw [Hsgn.out, ← Hpo.out, hp]) (fun i _ h => Hn42.out h.2))
              clear hp
              go_wp2_with fail
              go_round
              case rel => exact ⟨k + 1, by go_num, by omega, Hg⟩
              case measure => simp only [intOf]; omega
        · have Hg := Lib.hid (hg.out.next Hk.out (by
            have e2 := (u8_eq_num (a := s[k]) (n := 63) (by omega)).symm.trans h63
            unfold gsgn
            rw [show (s[k] == 63) = true from e2]; simp) (fun i _ h => Hn42.out h.2))
          by_cases hk0 : 0 < k
          all_goals
            go_wp2_with fail
            go_round
            case rel => exact ⟨k + 1, by go_num, by omega, Hg⟩
            case measure => simp only [intOf]; omega
      · have H42 : Hid (s[k] = 42) := Lib.hid (by have e1 := (u8_eq_num (a := s[k]) (n := 42) (by omega)).symm.trans h42; simpa using e1)
        have Hs : Hid (gsgn s[k] = true) := Lib.hid (by rw [H42.out]; rfl)
        rcases Nat.eq_zero_or_pos k with rfl | hk0
        · have Hg := Lib.hid (hg.out.next Hk.out Hs.out (fun i hi => by omega))
          go_wp2_with fail
          go_round
          case rel => exact ⟨1, rfl, by omega, Hg⟩
          case measure => simp only [intOf]; omega
        · obtain ⟨m, rfl⟩ : ∃ m, k = m + 1 := ⟨k - 1, by omega⟩
          have hm : m < s.size := by omega
          have Hm := Lib.hid (get_data s m hm)
          cases hp : ((s[m].toNat : Int) == 42)
          · have Hg := Lib.hid (hg.out.next Hk.out Hs.out (fun i hi h => by
              obtain rfl : m = i := by omega
              rw [Hm.out] at h
              rw [Option.some.inj h.1] at hp; cases hp))
            go_wp2_with fail
            go_round
            case rel => exact ⟨m + 1 + 1, by go_num, by omega, Hg⟩
            case measure => simp only [intOf]; omega
          · have Hf := Lib.hid (Hbad.out (gs_bad_stars (k := m) (by rw [Hm.out]; have e1 := (u8_eq_num (a := s[m]) (n := 42) (by omega)).symm.trans hp; exact congrArg some (by simpa using e1)) (by rw [Hk.out, H42.out])))
            go_wp2_with fail
            go_ret
            exact ⟨ret_bool Hf.out.symm, rfl⟩
    · have Hf := Lib.hid (Hgood.out (hg.out.done (by rw [len_data]; omega)))
      clear hg
      go_wp2_with fail
      go_ret
      exact ⟨ret_bool Hf.out.symm, rfl⟩
end Go.Proofs.YtabobdmgjmgifaaDoor
