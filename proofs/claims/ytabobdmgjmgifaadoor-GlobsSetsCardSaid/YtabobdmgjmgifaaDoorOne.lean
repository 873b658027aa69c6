/-
  The walk of globs.one: it answers what the plain law 'wild' says.
-/
import Derived.Test.YtabobdmgjmgifaaDoorBase
import Derived.Test.YtabobdmgjmgifaaDoorOneInv
import Derived.Test.YtabobdmgjmgifaaDoorShelf
namespace Go.Proofs.YtabobdmgjmgifaaDoor
open Go.RowKit

theorem okc_false {x c : UInt8} (h : ((x.toNat : Int) == 63) = false) (h2 : ((x.toNat : Int) == (c.toNat : Int)) = false) : okc x c = false := by
  have e := (u8_eq_num (a := x) (n := 63) (by omega)).symm.trans h
  rw [u8_eq] at h2
  show (x == 63 || x == c) = false
  rw [h2, show (x == 63) = false from e]; rfl
theorem okc_mark {x c : UInt8} (h : ((x.toNat : Int) == 63) = true) : okc x c = true := by
  have e := (u8_eq_num (a := x) (n := 63) (by omega)).symm.trans h
  show (x == 63 || x == c) = true
  rw [show (x == 63) = true from e]; rfl
theorem okc_same {x c : UInt8} (h2 : ((x.toNat : Int) == (c.toNat : Int)) = true) : okc x c = true := by
  rw [u8_eq] at h2
  show (x == 63 || x == c) = true
  rw [h2, Bool.or_true]
theorem is_42 {x : UInt8} (h : ((x.toNat : Int) == 42) = true) : x = 42 := by
  have := (u8_eq_num (a := x) (n := 42) (by omega)).symm.trans h
  simpa using this

set_option maxRecDepth 100000 in
set_option maxHeartbeats 1000000 in
theorem one_any' (htrim : ∀ (s : ByteArray) (w : World), s.size ≤ 9223372036854775807 → Calls Tryd.prog 50 #[.string s, .string ⟨#[42]⟩] w fun e w' => ∃ r : ByteArray, e = .returned (.string r) ∧ r.toList.isEmpty = stars s.data.toList ∧ ∃ n, w' = w.drewN n)
    (p s : ByteArray) (w : World) (hp : p.size ≤ 9223372036854775807) (hs : s.size ≤ 9223372036854775807) :
    Calls Tryd.prog 32 #[.string p, .string s] w fun e w' => e = .returned (.bool (wild p.data.toList s.data.toList)) ∧ ∃ n, w' = w.drewN n := by
  go_enter Tryd.func32, Tryd.ntmps32
  go_wp2
  go_loopw [5, 6, 7, 8] (fun i k st a wr => ∃ (i' k' a' : Nat) (st' : Int), i = .int .i64 i' ∧ k = .int .i64 k' ∧ st = .int .i64 st' ∧ a = .int .i64 a' ∧ i' ≤ p.size ∧ k' ≤ s.size ∧ a' ≤ k' ∧ -1 ≤ st' ∧ st' < i' ∧ OneInv p.data.toList s.data.toList i' k' st' a' ∧ ∃ n, wr = w.drewN n)
     (fun i k st a _ => oneLeft p.size s.size (intOf st) (intOf a).toNat (intOf k).toNat)
  case atStart => exact ⟨0, 0, 0, -1, rfl, rfl, rfl, rfl, by omega, by omega, by omega, by omega, by omega, OneInv.start _ _, 0, rfl⟩
  case round =>
    obtain ⟨i, k, a, st, rfl, rfl, rfl, rfl, hi, hk, ha, hst, hsi, hinv, n, rfl⟩ := hrel
    have Hinv := Lib.hid hinv
    clear hinv
    by_cases hks : k < s.size
    · have Hsk := Lib.hid (get_data s k hks)
      by_cases hip : i < p.size
      · have Hpi := Lib.hid (get_data p i hip)
        cases h42 : ((p[i].toNat : Int) == 42)
        · have H42 : Hid (p[i] ≠ 42) := Lib.hid (by intro h; rw [h] at h42; cases h42)
          have hfits : okc p[i] s[k] = true → Hid (OneInv p.data.toList s.data.toList (i + 1) (k + 1) st a) := fun h => Lib.hid (Hinv.out.fits Hpi.out Hsk.out H42.out h)
          have hmiss : okc p[i] s[k] = false → Hid (p.data.toList.length ≤ i ∨ ∃ x, p.data.toList[i]? = some x ∧ x ≠ 42 ∧ okc x s[k] = false) := fun h => Lib.hid (.inr ⟨_, Hpi.out, H42.out, h⟩)
          cases h63 : ((p[i].toNat : Int) == 63)
          · cases heq : ((p[i].toNat : Int) == (s[k].toNat : Int))
            · have Hm := hmiss (okc_false h63 heq)
              clear hfits hmiss
              by_cases hneg : st < 0
              · go_wp2
                go_quiet (fail)
                go_wp2
                go_ret
                exact ⟨ret_bool (Hinv.out.fails hneg Hsk.out Hm.out).symm, _, rfl⟩
              · go_wp2
                go_quiet (fail)
                go_wp2
                go_roundw
                case rel => exact ⟨st.toNat + 1, a + 1, a + 1, st, by rw [show ((st.toNat + 1 : Nat) : Int) = st + 1 from by omega], by go_num, rfl, by go_num, by omega, by omega, by omega, by omega, by omega, Hinv.out.back (by omega) Hsk.out Hm.out, _, rfl⟩
                case measure => simp only [intOf]; have := oneLeft_back p.size s.size st a k (by omega) hks; rw [show ((a : Int) + 1).toNat = a + 1 from by omega, Int.toNat_natCast, Int.toNat_natCast]; exact this
            · have Hf := hfits (okc_same heq)
              clear hfits hmiss
              go_wp2
              go_quiet (fail)
              go_wp2
              go_roundw
              case rel => exact ⟨i + 1, k + 1, a, st, by go_num, by go_num, rfl, rfl, by omega, by omega, by omega, by omega, by omega, Hf.out, _, rfl⟩
              case measure => simp only [intOf]; have := oneLeft_fits p.size s.size st a k hks; rw [show ((k : Int) + 1).toNat = k + 1 from by omega, Int.toNat_natCast, Int.toNat_natCast]; exact this
          · have Hf := hfits (okc_mark h63)
            clear hfits hmiss
            go_wp2
            go_quiet (fail)
            go_wp2
            go_roundw
            case rel => exact ⟨i + 1, k + 1, a, st, by go_num, by go_num, rfl, rfl, by omega, by omega, by omega, by omega, by omega, Hf.out, _, rfl⟩
            case measure => simp only [intOf]; have := oneLeft_fits p.size s.size st a k hks; rw [show ((k : Int) + 1).toNat = k + 1 from by omega, Int.toNat_natCast, Int.toNat_natCast]; exact this
        · have H42 : Hid (p.data.toList[i]? = some 42) := Lib.hid (by rw [Hpi.out, is_42 h42])
          go_wp2
          go_roundw
          case rel => exact ⟨i + 1, k, k, i, by go_num, rfl, rfl, rfl, by omega, by omega, by omega, by omega, by omega, Hinv.out.star H42.out, _, rfl⟩
          case measure => simp only [intOf]; have := oneLeft_star p.size s.size st a k i hst hsi hip hks ha; rw [Int.toNat_natCast, Int.toNat_natCast]; exact this
      · have Hm : Hid (p.data.toList.length ≤ i ∨ ∃ x, p.data.toList[i]? = some x ∧ x ≠ 42 ∧ okc x s[k] = false) := Lib.hid (.inl (by rw [len_data]; omega))
        have hd : decide ((i : Int) < (p.size : Int)) = false := by simpa using hip
        by_cases hneg : st < 0
        · go_wp2
          go_quiet (fail)
          go_wp2
          go_ret
          exact ⟨ret_bool (Hinv.out.fails hneg Hsk.out Hm.out).symm, _, rfl⟩
        · go_wp2
          go_quiet (fail)
          go_wp2
          go_roundw
          case rel => exact ⟨st.toNat + 1, a + 1, a + 1, st, by rw [show ((st.toNat + 1 : Nat) : Int) = st + 1 from by omega], by go_num, rfl, by go_num, by omega, by omega, by omega, by omega, by omega, Hinv.out.back (by omega) Hsk.out Hm.out, _, rfl⟩
          case measure => simp only [intOf]; have := oneLeft_back p.size s.size st a k (by omega) hks; rw [show ((a : Int) + 1).toNat = a + 1 from by omega, Int.toNat_natCast, Int.toNat_natCast]; exact this
    · have He := Lib.hid (Hinv.out.ends (by rw [len_data]; omega))
      go_wp2_with fail
      refine (htrim _ _ (by rw [ByteArray.size_extract]; omega)).mono ?_
      rintro e w' ⟨r, rfl, hr, n', rfl⟩
      have Hr := Lib.hid hr
      clear hr
      go_wp2
      go_ret
      exact ⟨ret_bool (by rw [Hr.out, He.out, drop_data]), _, rfl⟩
theorem dropWhile_nil_iff {α : Type} {p : α → Bool} : ∀ {l : List α}, l.dropWhile p = [] ↔ ∀ x ∈ l, p x = true
  | [] => by simp
  | x :: l => by
    by_cases h : p x = true
    · rw [List.dropWhile_cons_of_pos h, dropWhile_nil_iff]; simp [h]
    · rw [List.dropWhile_cons_of_neg h]; simp [h]
theorem trimB_nil (l : List UInt8) : (Lib.trimB l 42).isEmpty = stars l := by
  rw [Bool.eq_iff_iff, List.isEmpty_iff]
  unfold Lib.trimB Lib.trimLeftB Lib.trimRightB stars
  simp only [dropWhile_nil_iff, List.mem_reverse, List.all_eq_true]
  constructor
  · intro h x hx
    rcases Classical.em ((x == 42) = true) with e | e
    · exact e
    · -- x stays behind the right trim
      apply h
      have hs : l.reverse = l.reverse.takeWhile (· == 42) ++ l.reverse.dropWhile (· == 42) := (List.takeWhile_append_dropWhile ..).symm
      have hm : x ∈ l.reverse := List.mem_reverse.2 hx
      rw [hs] at hm
      rcases List.mem_append.1 hm with h1 | h1
      · exact absurd (List.all_eq_true.1 (List.all_takeWhile (p := (· == 42)) (l := l.reverse)) x h1) e
      · exact h1
  · intro h x hx
    exact h x (List.mem_reverse.1 ((List.dropWhile_sublist _).subset hx))

theorem trim_any (s : ByteArray) (w : World) (hs : s.size ≤ 9223372036854775807) :
    Calls Tryd.prog 50 #[.string s, .string ⟨#[42]⟩] w fun e w' => ∃ r : ByteArray, e = .returned (.string r) ∧ r.toList.isEmpty = stars s.data.toList ∧ ∃ n, w' = w.drewN n := by
  refine (Tryd.strings_Trim_one s 42 (by decide) w hs).mono ?_
  rintro e w' ⟨rfl, hw⟩
  refine ⟨_, rfl, by rw [Lib.toList_data, ← trimB_nil], ?_⟩
  rcases hw with rfl | rfl
  · exact ⟨0, rfl⟩
  · exact ⟨1, rfl⟩

/-- globs.one answers as the plain law says. -/
def POne (b : Bool) (w : World) (e : Ending) (w' : World) : Prop := e = .returned (.bool b) ∧ ∃ n, w' = w.drewN n
theorem one_any (p s : ByteArray) (w : World) (hp : p.size ≤ 9223372036854775807) (hs : s.size ≤ 9223372036854775807) :
    Calls Tryd.prog 32 #[.string p, .string s] w (POne (wild p.data.toList s.data.toList) w) := one_any' trim_any p s w hp hs

end Go.Proofs.YtabobdmgjmgifaaDoor
