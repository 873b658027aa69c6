/-
  The walk of the reference's Part: is a text a part of a path?
-/
import Derived.Test.YtabobdmgjmgifaaDoorPathPart
namespace Go.Proofs.YtabobdmgjmgifaaDoor
open Go.RowKit

theorem signs_at {l : List UInt8} {k : Nat} {x : UInt8} (h : l[k]? = some x) : allSigns (l.drop k) = (psign x.toNat && allSigns (l.drop (k + 1))) := by
  obtain ⟨hi, hx⟩ := List.getElem?_eq_some_iff.1 h
  rw [List.drop_eq_getElem_cons hi, hx]; rfl
theorem partOk_signs {s : ByteArray} (h1 : ¬ s.toList = []) (h2 : (s.size : Int) ≤ 64) (h3 : ¬ s.toList = [46]) (h4 : ¬ s.toList = [46, 46]) (b : Bool) (h : allSigns s.data.toList = b) : partOk s.data.toList = b := by
  rw [partOk_else h1 h2 h3 h4, h]

def PSame (v : Value) (w : World) (e : Ending) (w' : World) : Prop := e = .returned v ∧ w' = w

set_option maxRecDepth 100000 in
set_option maxHeartbeats 2000000 in
theorem refPart_any (s : ByteArray) (w : World) (hs : s.size ≤ 9223372036854775807) :
    Calls Tryd.prog 34 #[.string s] w (PSame (.bool (partOk s.data.toList)) w) := by
  by_cases h1 : s.toList = []
  · have H := Lib.hid (partOk_nil h1)
    have h1' : s.toList.isEmpty = true := by simpa using h1
    clear h1
    go_enter Tryd.func34, Tryd.ntmps34
    go_wp2_with fail
    go_ret
    exact ⟨ret_bool H.out.symm, rfl⟩
  by_cases h3 : s.toList = [46]
  · have H := Lib.hid (partOk_dot h3)
    have h1' : s.toList.isEmpty = false := by simpa using h1
    have h3' : (s.toList == [46]) = true := by simpa using h3
    clear h1 h3
    go_enter Tryd.func34, Tryd.ntmps34
    go_wp2_with fail
    go_ret
    exact ⟨ret_bool H.out.symm, rfl⟩
  by_cases h4 : s.toList = [46, 46]
  · have H := Lib.hid (partOk_dots h4)
    have h1' : s.toList.isEmpty = false := by simpa using h1
    have h3' : (s.toList == [46]) = false := by simpa using h3
    have h4' : (s.toList == [46, 46]) = true := by simpa using h4
    clear h1 h3 h4
    go_enter Tryd.func34, Tryd.ntmps34
    go_wp2_with fail
    go_ret
    exact ⟨ret_bool H.out.symm, rfl⟩
  by_cases h2 : (s.size : Int) ≤ 64
  · have H := fun b => Lib.hid (partOk_signs h1 h2 h3 h4 b)
    have h1' : s.toList.isEmpty = false := by simpa using h1
    have h3' : (s.toList == [46]) = false := by simpa using h3
    have h4' : (s.toList == [46, 46]) = false := by simpa using h4
    clear h1 h3 h4
    go_enter Tryd.func34, Tryd.ntmps34
    go_wp2_with fail
    go_loop [3, 4, 5] (fun i _ _ => ∃ k : Nat, i = .int .i64 k ∧ k ≤ s.size ∧ Hid (allSigns s.data.toList = allSigns (s.data.toList.drop k))) (fun i _ _ => s.size - (intOf i).toNat)
    case atStart => exact ⟨0, rfl, Nat.zero_le _, rfl⟩
    case round =>
      obtain ⟨k, rfl, hk, hg⟩ := hrel
      by_cases hlt : k < s.size
      · have Hat := Lib.hid (signs_at (get_data s k hlt))
        have hyes : Hid (psign s[k].toNat = true → allSigns s.data.toList = allSigns (s.data.toList.drop (k + 1))) := Lib.hid (fun h => by rw [hg.out, Hat.out, h]; rfl)
        have hno : Hid (psign s[k].toNat = false → allSigns s.data.toList = false) := Lib.hid (fun h => by rw [hg.out, Hat.out, h]; rfl)
        clear Hat hg
        have hcases : (97 ≤ s[k].toNat ∧ s[k].toNat ≤ 122) ∨ (65 ≤ s[k].toNat ∧ s[k].toNat ≤ 90) ∨ (48 ≤ s[k].toNat ∧ s[k].toNat ≤ 57) ∨ (95 ≤ s[k].toNat ∧ s[k].toNat ≤ 95) ∨ (46 ≤ s[k].toNat ∧ s[k].toNat ≤ 46) ∨ (45 ≤ s[k].toNat ∧ s[k].toNat ≤ 45) ∨ (43 ≤ s[k].toNat ∧ s[k].toNat ≤ 43) ∨
          (0 ≤ s[k].toNat ∧ s[k].toNat < 43) ∨ (44 ≤ s[k].toNat ∧ s[k].toNat < 45) ∨ (47 ≤ s[k].toNat ∧ s[k].toNat < 48) ∨ (58 ≤ s[k].toNat ∧ s[k].toNat < 65) ∨ (91 ≤ s[k].toNat ∧ s[k].toNat < 95) ∨ (96 ≤ s[k].toNat ∧ s[k].toNat < 97) ∨ (123 ≤ s[k].toNat ∧ s[k].toNat < 256) := by
          have := UInt8.toNat_lt s[k]; omega
        rcases hcases with ⟨g1, g2⟩ | ⟨g1, g2⟩ | ⟨g1, g2⟩ | ⟨g1, g2⟩ | ⟨g1, g2⟩ | ⟨g1, g2⟩ | ⟨g1, g2⟩ | hbad
        case inr.inr.inr.inr.inr.inr.inl =>
          have hq : ((s[k].toNat : Int) != 43) = false := by simp; omega
          have Hy := Lib.hid (hyes.out (by simp only [psign, Bool.or_eq_true, Bool.and_eq_true, decide_eq_true_eq, beq_iff_eq]; omega))
          go_wp2_with fail
          go_round
          case rel => exact ⟨k + 1, by go_num, by omega, Hy⟩
          case measure => simp only [intOf]; omega
        iterate 6
          · have Hy := Lib.hid (hyes.out (by simp only [psign, Bool.or_eq_true, Bool.and_eq_true, decide_eq_true_eq, beq_iff_eq]; omega))
            go_wp2_with fail
            go_round
            case rel => exact ⟨k + 1, by go_num, by omega, Hy⟩
            case measure => simp only [intOf]; omega
        · have Hn := Lib.hid (hno.out (by rw [Bool.eq_false_iff]; simp only [psign, Ne, Bool.or_eq_true, Bool.and_eq_true, decide_eq_true_eq, beq_iff_eq]; omega))
          have HH := Lib.hid ((H false).out Hn.out)
          have hq43 : ((s[k].toNat : Int) != 43) = true := by simp; omega
          have hq45 : ((s[k].toNat : Int) != 45) = true := by simp; omega
          have hq46 : ((s[k].toNat : Int) != 46) = true := by simp; omega
          have hq95 : ((s[k].toNat : Int) != 95) = true := by simp; omega
          rcases hbad with ⟨g1, g2⟩ | ⟨g1, g2⟩ | ⟨g1, g2⟩ | ⟨g1, g2⟩ | ⟨g1, g2⟩ | ⟨g1, g2⟩ | ⟨g1, g2⟩
          all_goals
            try have d57 : decide ((s[k].toNat : Int) ≤ 57) = false := decide_eq_false (by omega)
            try have d90 : decide ((s[k].toNat : Int) ≤ 90) = false := decide_eq_false (by omega)
            try have d122 : decide ((s[k].toNat : Int) ≤ 122) = false := decide_eq_false (by omega)
            go_wp2_with fail
            go_ret
            exact ⟨ret_bool HH.out.symm, rfl⟩
      · have HH := Lib.hid ((H true).out (by rw [hg.out, List.drop_of_length_le (by rw [len_data]; omega)]; rfl))
        clear hg
        go_wp2_with fail
        go_ret
        exact ⟨ret_bool HH.out.symm, rfl⟩
  · have H := Lib.hid (partOk_long (s := s) (by omega))
    have h1' : s.toList.isEmpty = false := by simpa using h1
    have h3' : (s.toList == [46]) = false := by simpa using h3
    have h4' : (s.toList == [46, 46]) = false := by simpa using h4
    clear h1 h3 h4
    go_enter Tryd.func34, Tryd.ntmps34
    go_wp2_with fail
    go_ret
    exact ⟨ret_bool H.out.symm, rfl⟩
end Go.Proofs.YtabobdmgjmgifaaDoor
