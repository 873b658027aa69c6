/-
  The walks of globs.part, globs.May and globs.Fixed.
-/
import Derived.Test.YtabobdmgjmgifaaDoorPlain
import Derived.Test.YtabobdmgjmgifaaDoorIndexFunc
namespace Go.Proofs.YtabobdmgjmgifaaDoor
open Go.RowKit

/-- May each sign of a text stand in a pattern's part, and do no two stars stand together? -/
def gsigns : List UInt8 → Bool
  | [] => true
  | x :: t => (psign x.toNat || x == 63 || x == 42) && !(Lib.hasPrefix (x :: t) [42, 42]) && gsigns t
/-- Is a text a part of a pattern? -/
def gpart (l : List UInt8) : Bool := l == [42, 42] || (decide (1 ≤ l.length) && decide (l.length ≤ 64) && !(l == [46]) && !(l == [46, 46]) && gsigns l)

theorem neq_num {a : UInt8} {n : Nat} (hn : n < 256) : ((a.toNat : Int) != (n : Int)) = !(a == UInt8.ofNat n) := by
  unfold bne; rw [u8_eq_num hn]
theorem gsigns_at {l : List UInt8} {k : Nat} {x : UInt8} (h : l[k]? = some x) : gsigns (l.drop k) = ((psign x.toNat || !((x.toNat : Int) != 63) || !((x.toNat : Int) != 42)) && !(Lib.hasPrefix (l.drop k) [42, 42]) && gsigns (l.drop (k + 1))) := by
  obtain ⟨hi, hx⟩ := List.getElem?_eq_some_iff.1 h
  have e1 := neq_num (a := x) (n := 63) (by omega)
  have e2 := neq_num (a := x) (n := 42) (by omega)
  rw [show (((63 : Nat) : Int)) = 63 from rfl, show UInt8.ofNat 63 = 63 from rfl] at e1
  rw [show (((42 : Nat) : Int)) = 42 from rfl, show UInt8.ofNat 42 = 42 from rfl] at e2
  rw [e1, e2, Bool.not_not, Bool.not_not, List.drop_eq_getElem_cons hi, hx]
  rfl
theorem gpart_stars {s : ByteArray} (h : (s.toList == [42, 42]) = true) : gpart s.data.toList = true := by
  have h := beq_iff_eq.1 h
  rw [← Lib.toList_data, h]; rfl
theorem gpart_bad {s : ByteArray} (h : (s.toList == [42, 42]) = false) (hg : gsigns s.data.toList = false) : gpart s.data.toList = false := by
  rw [Lib.toList_data] at h
  unfold gpart; rw [h, hg]; simp
theorem gpart_good {s : ByteArray} (h : (s.toList == [42, 42]) = false) (hg : gsigns s.data.toList = true) : gpart s.data.toList = (decide ((1 : Int) ≤ s.size) && decide ((s.size : Int) ≤ 64) && !(s.toList == [46]) && !(s.toList == [46, 46])) := by
  rw [Lib.toList_data] at h
  unfold gpart; rw [h, hg, Lib.toList_data, len_data]
  have e1 : decide ((1 : Int) ≤ s.size) = decide (1 ≤ s.size) := by rw [decide_eq_decide]; omega
  have e2 : decide ((s.size : Int) ≤ 64) = decide (s.size ≤ 64) := by rw [decide_eq_decide]; omega
  rw [e1, e2]; simp

set_option maxRecDepth 100000 in
set_option maxHeartbeats 1000000 in
theorem gpart_any (s : ByteArray) (w : World) (hs : s.size ≤ 9223372036854775807) :
    Calls Tryd.prog 27 #[.string s] w (PBelow (gpart s.data.toList) w) := by
  cases he : (s.toList == [42, 42])
  case true =>
    go_enter Tryd.func27, Tryd.ntmps27
    go_wp2_with fail
    go_ret
    exact ⟨ret_bool (gpart_stars he).symm, Below.refl _ _⟩
  case false =>
    have He := Lib.hid he
    go_enter Tryd.func27, Tryd.ntmps27
    go_wp2_with fail
    go_loopw [8] (fun i wr => ∃ k : Nat, i = .int .i64 k ∧ k ≤ s.size ∧ Below w.heap.size w wr ∧ Hid (gsigns s.data.toList = gsigns (s.data.toList.drop k))) (fun i _ => s.size - (intOf i).toNat)
    case atStart => exact ⟨0, rfl, Nat.zero_le _, Below.refl _ _, rfl⟩
    case round =>
      obtain ⟨k, rfl, hk, hb, hg⟩ := hrel
      by_cases hlt : k < s.size
      · have Hat := Lib.hid (gsigns_at (get_data s k hlt))
        go_wp2_with fail
        refine (plain_any _ _).mono ?_
        rintro e w1 ⟨rfl, hb1⟩
        have hb2 : Below w.heap.size w w1 := hb.trans (hb1.mono hb.size)
        clear hb hb1
        by_cases hbad : psign (s[k]).toNat = false ∧ (((s[k]).toNat : Int) != 63) = true ∧ (((s[k]).toNat : Int) != 42) = true
        · obtain ⟨h1, h2, h3⟩ := hbad
          have Hbad : Hid (gsigns s.data.toList = false) := Lib.hid (by rw [hg.out, Hat.out, h1, h2, h3]; rfl)
          rw [h1]
          go_wp2_with fail
          go_ret
          exact ⟨ret_bool (gpart_bad He.out Hbad.out).symm, hb2⟩
        · have hok : (psign (s[k]).toNat || !(((s[k]).toNat : Int) != 63) || !(((s[k]).toNat : Int) != 42)) = true := by
            revert hbad
            cases psign (s[k]).toNat <;> cases (((s[k]).toNat : Int) != 63) <;> cases (((s[k]).toNat : Int) != 42) <;> simp
          rw [hok, Bool.true_and] at Hat
          clear hok
          have hd := drop_data s k
          have Hd := Lib.hid hd
          clear hd
          cases h1 : psign (s[k]).toNat <;> cases h2 : (((s[k]).toNat : Int) != 63) <;> cases h3 : (((s[k]).toNat : Int) != 42)
          case neg.false.true.true => exact absurd ⟨h1, h2, h3⟩ hbad
          all_goals
            clear hbad
            go_wp2_with fail
            refine (Tryd.strings_HasPrefix _ _ _).mono ?_
            rintro e w2 ⟨rfl, hw2⟩
            obtain rfl : w1 = w2 := hw2.symm
            rw [Hd.out, show (⟨#[42, 42]⟩ : ByteArray).data.toList = [42, 42] from rfl]
            cases h4 : Lib.hasPrefix (s.data.toList.drop k) [42, 42]
            · have Hg : Hid (gsigns s.data.toList = gsigns (s.data.toList.drop (k + 1))) := Lib.hid (by rw [hg.out, Hat.out, h4]; rfl)
              clear h4 hg Hat
              go_wp2_with fail
              go_roundw
              case rel => exact ⟨k + 1, by go_num, by omega, hb2, Hg⟩
              case measure => simp only [intOf]; omega
            · have Hbad : Hid (gsigns s.data.toList = false) := Lib.hid (by rw [hg.out, Hat.out, h4]; rfl)
              clear h4 hg Hat
              go_wp2_with fail
              go_ret
              exact ⟨ret_bool (gpart_bad He.out Hbad.out).symm, hb2⟩
      · have Hg : Hid (gsigns s.data.toList = true) := Lib.hid (by rw [hg.out, List.drop_of_length_le (by rw [len_data]; omega)]; rfl)
        have HG := Lib.hid (gpart_good He.out Hg.out)
        clear hg
        go_wp2_with fail
        · go_ret
          exact ⟨ret_bool (by rw [HG.out, show s.toList = [46] from ‹_›]; simp), hb⟩
        · go_ret
          exact ⟨ret_bool (by rw [HG.out, decide_eq_true (p := (1 : Int) ≤ s.size) ‹_›, decide_eq_true (p := (s.size : Int) ≤ 64) ‹_›]; rfl), hb⟩
        · go_ret
          exact ⟨ret_bool (by rw [HG.out, decide_eq_false (p := (s.size : Int) ≤ 64) (by omega)]; simp), hb⟩
        · go_ret
          exact ⟨ret_bool (by rw [HG.out, decide_eq_false (p := (1 : Int) ≤ s.size) (by omega)]; simp), hb⟩
end Go.Proofs.YtabobdmgjmgifaaDoor
