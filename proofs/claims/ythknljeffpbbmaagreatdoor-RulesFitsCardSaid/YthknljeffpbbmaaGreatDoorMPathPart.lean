/-
  The walks of path.sign, and of what path.part hands to strings.ContainsFunc.
  The walk of path.part: is a text a part of a path?
-/
import Derived.Test.YthknljeffpbbmaaGreatDoorMParseBal
import Derived.Test.YthknljeffpbbmaaGreatDoorShelf
namespace Go.Proofs.YthknljeffpbbmaaGreatDoor
open Go.RowKit

/-- May a sign stand in a path's part? -/
def psign (c : Nat) : Bool := (97 ≤ c && c ≤ 122) || (65 ≤ c && c ≤ 90) || (48 ≤ c && c ≤ 57) || c == 95 || c == 46 || c == 45 || c == 43

def PSign (b : Bool) (w : World) (e : Ending) (w' : World) : Prop := e = .returned (.bool b) ∧ w' = w

theorem psign_other (c : Nat) (h : c < 48 ∨ (57 < c ∧ c < 65) ∨ (90 < c ∧ c < 97) ∨ (122 < c ∧ c < 128)) : psign c = decide (0 ≤ Lib.indexByte [95, 46, 45, 43] c.toUInt8) := by
  have hc : c < 128 := by omega
  have key : ∀ c : Fin 128, (c.val < 48 ∨ (57 < c.val ∧ c.val < 65) ∨ (90 < c.val ∧ c.val < 97) ∨ (122 < c.val ∧ c.val < 128)) → psign c.val = decide (0 ≤ Lib.indexByte [95, 46, 45, 43] c.val.toUInt8) := by decide +kernel
  exact key ⟨c, hc⟩ h

set_option maxRecDepth 100000 in
set_option maxHeartbeats 1000000 in
theorem psign_any (c : Nat) (w : World) (hc : c ≤ 1114111) :
    Calls Tryz.prog 70 #[.int .i32 c] w (PSign (psign c) w) := by
  have hcases : (97 ≤ c ∧ c ≤ 122) ∨ (65 ≤ c ∧ c ≤ 90) ∨ (48 ≤ c ∧ c ≤ 57) ∨ 128 ≤ c ∨ c < 48 ∨ (57 < c ∧ c < 65) ∨ (90 < c ∧ c < 97) ∨ (122 < c ∧ c < 128) := by omega
  rcases hcases with ⟨h1, h2⟩ | ⟨h1, h2⟩ | ⟨h1, h2⟩ | h1 | h1 | ⟨h1, h2⟩ | ⟨h1, h2⟩ | ⟨h1, h2⟩
  · have H : Hid (psign c = true) := Lib.hid (by simp [psign]; omega)
    go_enter Tryz.func70, Tryz.ntmps70
    go_wp2_with fail
    go_ret
    exact ⟨ret_bool H.out.symm, rfl⟩
  · have H : Hid (psign c = true) := Lib.hid (by simp [psign]; omega)
    go_enter Tryz.func70, Tryz.ntmps70
    go_wp2_with fail
    go_ret
    exact ⟨ret_bool H.out.symm, rfl⟩
  · have H : Hid (psign c = true) := Lib.hid (by simp [psign]; omega)
    go_enter Tryz.func70, Tryz.ntmps70
    go_wp2_with fail
    go_ret
    exact ⟨ret_bool H.out.symm, rfl⟩
  · have H : Hid (psign c = false) := Lib.hid (by simp [psign]; omega)
    go_enter Tryz.func70, Tryz.ntmps70
    go_wp2_with fail
    go_ret
    exact ⟨ret_bool (by rw [H.out, decide_eq_false (p := (c : Int) ≤ 122) (by omega), decide_eq_false (p := (c : Int) ≤ 90) (by omega), decide_eq_false (p := (c : Int) ≤ 57) (by omega)]; rfl), rfl⟩
  all_goals
    have H := Lib.hid (psign_other c (by omega))
    go_enter Tryz.func70, Tryz.ntmps70
    go_wp2_with fail
    refine (Tryz.strings_IndexByte _ _ _).mono ?_
    rintro e w' ⟨rfl, rfl⟩
    rw [show (c : Int).toNat.toUInt8 = c.toUInt8 from rfl]
    go_wp2_with fail
    go_ret
    refine ⟨ret_bool ?_, rfl⟩
    rw [H.out]
    try rw [decide_eq_false (p := (c : Int) ≤ 122) (by omega)]
    try rw [decide_eq_false (p := (c : Int) ≤ 90) (by omega)]
    try rw [decide_eq_false (p := (c : Int) ≤ 57) (by omega)]
    all_goals rfl

set_option maxRecDepth 100000 in
set_option maxHeartbeats 400000 in
/-- path.part's own predicate: a sign that may not stand. -/
theorem part1_any (c : Nat) (w : World) (hc : c ≤ 1114111) :
    Calls Tryz.prog 69 #[.int .i32 c] w (PSign (!psign c) w) := by
  go_enter Tryz.func69, Tryz.ntmps69
  go_wp2_with fail
  refine (psign_any c _ hc).mono ?_
  rintro e w' ⟨rfl, rfl⟩
  go_wp2
  go_ret
  exact ⟨rfl, rfl⟩
end Go.Proofs.YthknljeffpbbmaaGreatDoor
namespace Go.Proofs.YthknljeffpbbmaaGreatDoor
open Go.RowKit

/-- Is a text a part of a path? -/
def allSigns (l : List UInt8) : Bool := l.all fun b => psign b.toNat
def partOk (l : List UInt8) : Bool := !l.isEmpty && decide (l.length ≤ 64) && !(l == [46]) && !(l == [46, 46]) && allSigns l

theorem psign_small {c : Nat} (h : psign c = true) : c < 128 := by
  simp only [psign, Bool.or_eq_true, Bool.and_eq_true, decide_eq_true_eq, beq_iff_eq] at h; omega
theorem decode_big (s : ByteArray) (pos : Nat) (h : 128 ≤ (s.get! pos).toNat) : 128 ≤ (Utf8.decode s pos).1 := by
  unfold Utf8.decode
  simp only [Nat.add_zero]
  rw [if_neg (by omega)]
  split
  · split <;> simp_all [Utf8.runeError]
  · split
    · split
      · rename_i h1; simp only [ge_iff_le, Bool.and_eq_true, decide_eq_true_eq] at h1; simp only; omega
      · simp [Utf8.runeError]
    · split
      · split
        · rename_i h1; simp only [ge_iff_le, Bool.and_eq_true, decide_eq_true_eq] at h1; simp only; omega
        · simp [Utf8.runeError]
      · simp [Utf8.runeError]
theorem decode_small (s : ByteArray) (pos : Nat) (h : (s.get! pos).toNat < 128) : Utf8.decode s pos = ((s.get! pos).toNat, 1) := by
  unfold Utf8.decode
  simp only [Nat.add_zero]
  rw [if_pos (by omega)]

theorem idxFrom_signs (s : ByteArray) : ∀ (f pos : Nat), s.size - pos ≤ f → (decide (0 ≤ Lib.idxFuncFrom (fun c => !psign c) true s f pos)) = !((s.data.toList.drop pos).all fun b => psign b.toNat) := by
  intro f
  induction f with
  | zero =>
    intro pos h
    rw [List.drop_of_length_le (by rw [len_data]; omega)]; rfl
  | succ f ih =>
    intro pos h
    by_cases hp : pos < s.size
    · have hd : s.data.toList.drop pos = s[pos] :: s.data.toList.drop (pos + 1) := by
        rw [List.drop_eq_getElem_cons (by rw [len_data]; exact hp)]; rfl
      have hg : s.get! pos = s[pos] := by
        show s.data[pos]! = s.data[pos]
        exact getElem!_pos s.data pos hp
      unfold Lib.idxFuncFrom
      rw [if_pos hp, hd, List.all_cons]
      by_cases hb : (s[pos]).toNat < 128
      · rw [decode_small s pos (by rw [hg]; exact hb), hg]
        cases hs : psign (s[pos]).toNat
        · simp
        · simp only [Bool.not_true, Bool.false_eq_true, if_false, Bool.true_and]
          exact ih (pos + 1) (by omega)
      · have h1 := decode_big s pos (by rw [hg]; omega)
        have h2 : psign (Utf8.decode s pos).1 = false := by
          rw [Bool.eq_false_iff]; intro h; have := psign_small h; omega
        have h3 : psign (s[pos]).toNat = false := by
          rw [Bool.eq_false_iff]; intro h; have := psign_small h; omega
        rw [h2, h3]; simp
    · rw [Lib.idxFuncFrom_end _ _ _ _ _ hp, List.drop_of_length_le (by rw [len_data]; omega)]; rfl
theorem idx_signs (s : ByteArray) : (decide (0 ≤ Lib.idxFunc (fun c => !psign c) true s)) = !(allSigns s.data.toList) := idxFrom_signs s s.size 0 (by omega)

theorem part1_grows (w : World) : PredGrows Tryz.prog 69 #[] (fun c => !psign c) w := fun W x hx _ =>
  (part1_any x W hx).mono fun _ _ ⟨he, hw⟩ => ⟨he, hw ▸ Below.refl _ _⟩

theorem partOk_nil {s : ByteArray} (h : s.toList = []) : partOk s.data.toList = false := by rw [← Lib.toList_data, h]; rfl
theorem partOk_dot {s : ByteArray} (h : s.toList = [46]) : partOk s.data.toList = false := by rw [← Lib.toList_data, h]; rfl
theorem partOk_dots {s : ByteArray} (h : s.toList = [46, 46]) : partOk s.data.toList = false := by rw [← Lib.toList_data, h]; rfl
theorem partOk_long {s : ByteArray} (h : (64 : Int) < s.size) : partOk s.data.toList = false := by
  unfold partOk; rw [len_data, decide_eq_false (p := s.size ≤ 64) (by omega)]; simp
theorem partOk_else {s : ByteArray} (h1 : ¬ s.toList = []) (h2 : (s.size : Int) ≤ 64) (h3 : ¬ s.toList = [46]) (h4 : ¬ s.toList = [46, 46]) : partOk s.data.toList = allSigns s.data.toList := by
  rw [Lib.toList_data] at h1 h3 h4
  unfold partOk; rw [len_data, decide_eq_true (p := s.size ≤ 64) (by omega), beq_false_of_ne h3, beq_false_of_ne h4]
  rw [show s.data.toList.isEmpty = false by simpa using h1]; rfl

theorem part_form {s : ByteArray} {b : Bool} (h1 : ¬ s.toList = []) (h3 : ¬ s.toList = [46]) (h4 : ¬ s.toList = [46, 46]) : (!s.toList.isEmpty && !s.toList == [46] && !s.toList == [46, 46] && b) = b := by
  rw [beq_false_of_ne h3, beq_false_of_ne h4, show s.toList.isEmpty = false by simpa using h1]; rfl

def PBelow (b : Bool) (w : World) (e : Ending) (w' : World) : Prop := e = .returned (.bool b) ∧ Below w.heap.size w w'

set_option maxRecDepth 100000 in
set_option maxHeartbeats 1000000 in
theorem pathPart_any (s : ByteArray) (w : World) :
    Calls Tryz.prog 41 #[.string s] w (PBelow (partOk s.data.toList) w) := by
  have hgo := Tryz.strings_ContainsFunc_grows 69 #[] (enters_of Tryz.func69 (by kernel_rfl) rfl) (fun c => !psign c) s w (part1_grows w)
  have Hgo := Lib.hid hgo
  clear hgo
  go_enter Tryz.func41, Tryz.ntmps41
  go_wp2_with fail
  · go_ret
    exact ⟨ret_bool (partOk_nil ‹_›).symm, Below.refl _ _⟩
  · go_ret
    exact ⟨ret_bool (partOk_dot ‹_›).symm, Below.refl _ _⟩
  · go_ret
    exact ⟨ret_bool (partOk_dots ‹_›).symm, Below.refl _ _⟩
  · have H := Lib.hid (partOk_else (s := s) ‹_› ‹_› ‹_› ‹_›)
    refine Hgo.out.mono ?_
    rintro e w' ⟨rfl, hb⟩
    rw [idx_signs]
    go_wp2_with fail
    go_ret
    exact ⟨ret_bool (by rw [H.out]; exact part_form ‹_› ‹_› ‹_›), hb⟩
  · go_ret
    exact ⟨ret_bool (partOk_long ‹_›).symm, Below.refl _ _⟩
end Go.Proofs.YthknljeffpbbmaaGreatDoor
