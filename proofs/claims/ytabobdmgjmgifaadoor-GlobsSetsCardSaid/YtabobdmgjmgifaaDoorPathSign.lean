/-
  The walks of path.sign, and of what path.part hands to strings.ContainsFunc.
-/
import Derived.Test.YtabobdmgjmgifaaDoorBase
import Derived.Test.YtabobdmgjmgifaaDoorShelf
namespace Go.Proofs.YtabobdmgjmgifaaDoor
open Go.RowKit

/-- May a sign stand in a path's part? -/
def psign (c : Nat) : Bool := (97 ≤ c && c ≤ 122) || (65 ≤ c && c ≤ 90) || (48 ≤ c && c ≤ 57) || c == 95 || c == 46 || c == 45 || c == 43

def PSign (b : Bool) (w : World) (e : Ending) (w' : World) : Prop := e = .returned (.bool b) ∧ w' = w

theorem psign_other (c : Nat) (h : c < 48 ∨ (57 < c ∧ c < 65) ∨ (90 < c ∧ c < 97) ∨ (122 < c ∧ c < 128)) : psign c = decide (0 ≤ Lib.indexByte [95, 46, 45, 43] c.toUInt8) := by
  have hc : c < 128 := by omega
  have key : ∀ c : Fin 128, (c.val < 48 ∨ (57 < c.val ∧ c.val < 65) ∨ (90 < c.val ∧ c.val < 97) ∨ (122 < c.val ∧ c.val < 128)) → psign c.val = decide (0 ≤ Lib.indexByte [95, 46, 45, 43] c.val.toUInt8) := by decide +kernel
  exact key ⟨c, hc⟩ h

set_option maxRecDepth 100000 in
set_option maxHeartbeats 1000000 in
theorem sign_any (c : Nat) (w : World) (hc : c ≤ 1114111) :
    Calls Tryd.prog 60 #[.int .i32 c] w (PSign (psign c) w) := by
  have hcases : (97 ≤ c ∧ c ≤ 122) ∨ (65 ≤ c ∧ c ≤ 90) ∨ (48 ≤ c ∧ c ≤ 57) ∨ 128 ≤ c ∨ c < 48 ∨ (57 < c ∧ c < 65) ∨ (90 < c ∧ c < 97) ∨ (122 < c ∧ c < 128) := by omega
  rcases hcases with ⟨h1, h2⟩ | ⟨h1, h2⟩ | ⟨h1, h2⟩ | h1 | h1 | ⟨h1, h2⟩ | ⟨h1, h2⟩ | ⟨h1, h2⟩
  · have H : Hid (psign c = true) := Lib.hid (by simp [psign]; omega)
    go_enter Tryd.func60, Tryd.ntmps60
    go_wp2_with fail
    go_ret
    exact ⟨ret_bool H.out.symm, rfl⟩
  · have H : Hid (psign c = true) := Lib.hid (by simp [psign]; omega)
    go_enter Tryd.func60, Tryd.ntmps60
    go_wp2_with fail
    go_ret
    exact ⟨ret_bool H.out.symm, rfl⟩
  · have H : Hid (psign c = true) := Lib.hid (by simp [psign]; omega)
    go_enter Tryd.func60, Tryd.ntmps60
    go_wp2_with fail
    go_ret
    exact ⟨ret_bool H.out.symm, rfl⟩
  · have H : Hid (psign c = false) := Lib.hid (by simp [psign]; omega)
    go_enter Tryd.func60, Tryd.ntmps60
    go_wp2_with fail
    go_ret
    exact ⟨ret_bool (by rw [H.out, decide_eq_false (p := (c : Int) ≤ 122) (by omega), decide_eq_false (p := (c : Int) ≤ 90) (by omega), decide_eq_false (p := (c : Int) ≤ 57) (by omega)]; rfl), rfl⟩
  all_goals
    have H := Lib.hid (psign_other c (by omega))
    go_enter Tryd.func60, Tryd.ntmps60
    go_wp2_with fail
    refine (Tryd.strings_IndexByte _ _ _).mono ?_
    rintro e w' ⟨rfl, rfl⟩
    rw [show (c : Int).toNat.toUInt8 = c.toUInt8 from rfl]
    go_wp2_with fail
    go_ret
    refine ⟨ret_bool ?_, rfl⟩
    rw [H.out]
    try rw [decide_eq_false (p := (c : Int) ≤ 122) (by omega)]
    try rw [decide_eq_false (p := (c : Int) ≤ 90) (by omega)]
    try rw [decide_eq_false (p := (c : Int) ≤ 57) (by omega)]
    all_goals rfl

set_option maxRecDepth 100000 in
set_option maxHeartbeats 400000 in
/-- path.part's own predicate: a sign that may not stand. -/
theorem part1_any (c : Nat) (w : World) (hc : c ≤ 1114111) :
    Calls Tryd.prog 59 #[.int .i32 c] w (PSign (!psign c) w) := by
  go_enter Tryd.func59, Tryd.ntmps59
  go_wp2_with fail
  refine (sign_any c _ hc).mono ?_
  rintro e w' ⟨rfl, rfl⟩
  go_wp2
  go_ret
  exact ⟨rfl, rfl⟩
end Go.Proofs.YtabobdmgjmgifaaDoor
