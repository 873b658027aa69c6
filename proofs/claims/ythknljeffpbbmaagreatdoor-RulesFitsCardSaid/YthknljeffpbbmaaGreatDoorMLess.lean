/-
  The walks of cmp.Compare, cmp.Or, label.Less and the order of labels: what they leave of the world is told exactly, as the library's sort asks.
  The walks of label.Less and of the order of labels.
-/
import Derived.Sort.Grow
import Derived.Test.YthknljeffpbbmaaGreatDoorMLabelPlain
import Derived.Test.YthknljeffpbbmaaGreatDoorMSame0
import Derived.Test.YthknljeffpbbmaaGreatDoorMHeldSkip
namespace Go.Proofs.YthknljeffpbbmaaGreatDoor
open Go Go.RowKit Go.Sort

/-- New blocks and draws alone. -/
def Grows (w w' : World) : Prop := ∃ (q : Nat) (os : Array Obj), w' = grow (w.drewN q) os
theorem Grows.refl (w : World) : Grows w w := ⟨0, #[], by show w = grow (w.drewN 0) #[]; unfold grow; simp [World.drewN]⟩
theorem Grows.alloc {w w' : World} (h : Grows w w') (o : Obj) : Grows w (w'.alloc o) := by
  obtain ⟨q, os, rfl⟩ := h
  exact ⟨q, _, by rw [alloc_eq_grow, grow_grow]⟩
theorem Grows.drew {w w' : World} (h : Grows w w') : Grows w w'.drew := by
  obtain ⟨q, os, rfl⟩ := h
  exact ⟨q + 1, os, rfl⟩
theorem Grows.trans {a b c : World} (h : Grows a b) (k : Grows b c) : Grows a c := by
  obtain ⟨q, os, rfl⟩ := h
  obtain ⟨q', os', rfl⟩ := k
  refine ⟨q + q', os ++ os', ?_⟩
  show grow ((grow (a.drewN q) os).drewN q') os' = _
  unfold grow World.drewN
  simp [Nat.add_assoc]
theorem Grows.below {w w' : World} (h : Grows w w') : Below w.heap.size w w' := by
  obtain ⟨q, os, rfl⟩ := h
  refine ⟨rfl, rfl, rfl, by unfold grow World.drewN; simp, fun i hi => ?_⟩
  unfold grow World.drewN
  exact Array.getElem?_append_left hi

set_option maxRecDepth 100000 in
set_option maxHeartbeats 1000000 in
theorem nan_any (s : ByteArray) (w : World) : Calls Tryz.prog 118 #[.string s] w (fun e w' => e = .returned (.bool false) ∧ w = w') := by
  go_enter Tryz.func118, Tryz.ntmps118
  go_wp2_with fail
  go_ret
  exact ⟨ret_bool (by simp), rfl⟩
set_option maxRecDepth 100000 in
set_option maxHeartbeats 1000000 in
theorem cmpStr_any (a b : ByteArray) (w : World) : Calls Tryz.prog 86 #[.string a, .string b] w (fun e w' => e = .returned (.int .i64 (cfName a.data.toList b.data.toList)) ∧ w = w') := by
  go_enter Tryz.func86, Tryz.ntmps86
  go_wp2_with fail
  refine (nan_any a _).mono ?_
  rintro e w1 ⟨rfl, rfl⟩
  go_wp2_with fail
  refine (nan_any b _).mono ?_
  rintro e w1 ⟨rfl, rfl⟩
  cases h1 : Op.bytesLess a.toList b.toList
  · cases h2 : (Op.bytesLess a.toList b.toList || a.toList == b.toList)
    · have H : Hid (cfName a.data.toList b.data.toList = 1) := Lib.hid (by
        have h1 := h1
        have h2 := h2
        rw [h1, Bool.false_or] at h2
        rw [bytesLess_eq, Lib.toList_data, Lib.toList_data, decide_eq_false_iff_not] at h1
        rw [Lib.toList_data, Lib.toList_data, beq_eq_false_iff_ne] at h2
        have h3 : b.data.toList < a.data.toList := Classical.byContradiction fun h => h2 (bytes_tri _ _ h1 h)
        unfold cfName
        rw [if_neg h1, if_pos h3])
      have h3 : (a.toList == b.toList) = false := by rw [h1, Bool.false_or] at h2; exact h2
      go_wp2_with fail
      go_ret
      exact ⟨ret_int H.out.symm, rfl⟩
    · have H : Hid (cfName a.data.toList b.data.toList = 0) := Lib.hid (by
        rw [h1, Bool.false_or] at h2
        rw [Lib.toList_data, Lib.toList_data, beq_iff_eq] at h2
        unfold cfName
        rw [h2, if_neg (List.lt_irrefl _), if_neg (List.lt_irrefl _)])
      have h3 : (a.toList == b.toList) = true := by rw [h1, Bool.false_or] at h2; exact h2
      go_wp2_with fail
      go_ret
      exact ⟨ret_int H.out.symm, rfl⟩
  · have H : Hid (cfName a.data.toList b.data.toList = -1) := Lib.hid (by
      rw [bytesLess_eq, Lib.toList_data, Lib.toList_data, decide_eq_true_eq] at h1
      unfold cfName
      rw [if_pos h1])
    go_wp2_with fail
    go_ret
    exact ⟨ret_int H.out.symm, rfl⟩
set_option maxRecDepth 100000 in
set_option maxHeartbeats 1000000 in
theorem or_any (x y : Int) (b o c : Nat) (w : World) (h0 : w.cell? ⟨b, o, none⟩ = some (.int .i64 x)) (h1 : w.cell? ⟨b, o + 1, none⟩ = some (.int .i64 y)) :
    Calls Tryz.prog 85 #[.slice (some ⟨b, o, none⟩) 2 c] w (fun e w' => e = .returned (.int .i64 (if x = 0 then y else x)) ∧ w = w') := by
  generalize hr : (if x = 0 then y else x) = r
  have Hr := Lib.hid hr
  clear hr
  go_enter Tryz.func85, Tryz.ntmps85
  go_wp2
  go_loop [8] (fun i => (i = .int .i64 0) ∨ (i = .int .i64 1 ∧ Hid (x = 0)) ∨ (i = .int .i64 2 ∧ Hid (x = 0) ∧ Hid (y = 0))) (fun i => 2 - (intOf i).toNat)
  case atStart => exact .inl rfl
  case round =>
    rcases hrel with rfl | ⟨rfl, h⟩ | ⟨rfl, h, h'⟩
    · by_cases hx : x = 0
      · have hx' : (x != 0) = false := by simpa using hx
        have Hx := Lib.hid hx
        clear hx
        go_wp2
        go_round
        case rel => exact .inr (.inl ⟨by go_num, Hx⟩)
        case measure => simp [intOf]
      · have hx' : (x != 0) = true := by simpa using hx
        have H : Hid (r = x) := Lib.hid (by rw [← Hr.out, if_neg hx])
        go_wp2
        go_ret
        exact ⟨ret_int H.out.symm, rfl⟩
    · by_cases hy : y = 0
      · have hy' : (y != 0) = false := by simpa using hy
        have Hy := Lib.hid hy
        clear hy
        go_wp2
        go_round
        case rel => exact .inr (.inr ⟨by go_num, h, Hy⟩)
        case measure => simp [intOf]
      · have hy' : (y != 0) = true := by simpa using hy
        have H : Hid (r = y) := Lib.hid (by rw [← Hr.out, if_pos h.out])
        go_wp2
        go_ret
        exact ⟨ret_int H.out.symm, rfl⟩
    · have H : Hid (r = 0) := Lib.hid (by rw [← Hr.out, if_pos h.out]; exact h'.out)
      go_wp2
      go_ret
      exact ⟨ret_int H.out.symm, rfl⟩
end Go.Proofs.YthknljeffpbbmaaGreatDoor
namespace Go.Proofs.YthknljeffpbbmaaGreatDoor
open Go Go.RowKit Go.Sort

set_option maxRecDepth 100000 in
set_option maxHeartbeats 4000000 in
theorem less_any (p n p' n' : ByteArray) (w : World) :
    Calls Tryz.prog 52 #[.agg #[.string p, .string n], .agg #[.string p', .string n']] w (fun e w' => e = .returned (.bool (labelLt (labelOf (p, n)) (labelOf (p', n')))) ∧ Grows w w') := by
  have H : Hid (decide ((if cfName p.data.toList p'.data.toList = 0 then cfName n.data.toList n'.data.toList else cfName p.data.toList p'.data.toList) < 0) = labelLt (labelOf (p, n)) (labelOf (p', n'))) := Lib.hid (less_plain (labelOf (p, n)) (labelOf (p', n')))
  have HC1 := Lib.hid (fun W => cmpStr_any p p' W)
  have HC2 := Lib.hid (fun W => cmpStr_any n n' W)
  generalize cfName p.data.toList p'.data.toList = x at H HC1
  generalize cfName n.data.toList n'.data.toList = y at H HC2
  generalize labelLt (labelOf (p, n)) (labelOf (p', n')) = r at H ⊢
  obtain ⟨a1, a2, a3, a4⟩ := alloc2 w (.cells #[.string p, .string n] 41) (.cells #[.string p', .string n'] 41)
  have H0 : Hid (((w.alloc (.cells #[.string p, .string n] 41)).alloc (.cells #[.string p', .string n'] 41)).drew.heap[w.heap.size]? = some (.cells #[.string p, .string n] 41 (0, 0)) ∧ ((w.alloc (.cells #[.string p, .string n] 41)).alloc (.cells #[.string p', .string n'] 41)).drew.heap[w.heap.size + 1]? = some (.cells #[.string p', .string n'] 41 (0, 0)) ∧ Grows w ((w.alloc (.cells #[.string p, .string n] 41)).alloc (.cells #[.string p', .string n'] 41)).drew) := Lib.hid ⟨a1, a2, (((Grows.refl w).alloc _).alloc _).drew⟩
  clear a1 a2 a3 a4
  go_enter Tryz.func52, Tryz.ntmps52
  go_wp2_with fail
  refine wp_region_turns (.s 0 (.s 1 (.s 2 (.s 3 (.s 5 (.s 6 (.s 7 (.s 8 (.h 4 (.h 9 (.h 10 (.h 11 (.s 12 (.s 13 .nil)))))))))))))) 99 (fun W' => W'.heap[w.heap.size]? = some (.cells #[.string p, .string n] 41 (0, 0)) ∧ W'.heap[w.heap.size + 1]? = some (.cells #[.string p', .string n'] 41 (0, 0))) (by kernel_rfl) (by kernel_rfl) (fun c a d v w h => by cases d <;> exact h) ⟨H0.out.1, H0.out.2.1⟩ ?_
  generalize World.drew _ = Wd at H0 ⊢
  refine turn_steady (.pointer (some ⟨w.heap.size, 0, none⟩)) rfl rfl (fun W' hS => ?_) ?_
  · go_simp
  try simp only [List.getElem_toArray, List.getElem_cons_zero, Act.put, List.setIfInBounds_toArray, List.set_cons_zero, List.set_cons_succ]
  refine turn_steady (.string p) rfl rfl (fun W' hS => ?_) ?_
  · obtain ⟨s0, s1, s2, s3, s4⟩ := two_facts hS.1
    clear hS
    go_simp
  try simp only [List.getElem_toArray, List.getElem_cons_succ, List.getElem_cons_zero, Act.put, List.setIfInBounds_toArray, List.set_cons_zero, List.set_cons_succ]
  refine turn_steady (.pointer (some ⟨w.heap.size + 1, 0, none⟩)) rfl rfl (fun W' hS => ?_) ?_
  · go_simp
  try simp only [List.getElem_toArray, List.getElem_cons_succ, List.getElem_cons_zero, Act.put, List.setIfInBounds_toArray, List.set_cons_zero, List.set_cons_succ]
  refine turn_steady (.string p') rfl rfl (fun W' hS => ?_) ?_
  · obtain ⟨s0, s1, s2, s3, s4⟩ := two_facts hS.2
    clear hS
    go_simp
  try simp only [List.getElem_toArray, List.getElem_cons_succ, List.getElem_cons_zero, Act.put, List.setIfInBounds_toArray, List.set_cons_zero, List.set_cons_succ]
  refine turn_steady (.pointer (some ⟨w.heap.size, 1, none⟩)) rfl rfl (fun W' hS => ?_) ?_
  · go_simp
  try simp only [List.getElem_toArray, List.getElem_cons_succ, List.getElem_cons_zero, Act.put, List.setIfInBounds_toArray, List.set_cons_zero, List.set_cons_succ]
  refine turn_steady (.string n) rfl rfl (fun W' hS => ?_) ?_
  · obtain ⟨s0, s1, s2, s3, s4⟩ := two_facts hS.1
    clear hS
    go_simp
  try simp only [List.getElem_toArray, List.getElem_cons_succ, List.getElem_cons_zero, Act.put, List.setIfInBounds_toArray, List.set_cons_zero, List.set_cons_succ]
  refine turn_steady (.pointer (some ⟨w.heap.size + 1, 1, none⟩)) rfl rfl (fun W' hS => ?_) ?_
  · go_simp
  try simp only [List.getElem_toArray, List.getElem_cons_succ, List.getElem_cons_zero, Act.put, List.setIfInBounds_toArray, List.set_cons_zero, List.set_cons_succ]
  refine turn_steady (.string n') rfl rfl (fun W' hS => ?_) ?_
  · obtain ⟨s0, s1, s2, s3, s4⟩ := two_facts hS.2
    clear hS
    go_simp
  try simp only [List.getElem_toArray, List.getElem_cons_succ, List.getElem_cons_zero, Act.put, List.setIfInBounds_toArray, List.set_cons_zero, List.set_cons_succ]
  have hbn : Below Wd.heap.size Wd (Wd.alloc (.cells #[.int .i64 x, .int .i64 y] 3)) := (Below.refl _ _).alloc (Nat.le_refl _) _
  have H1 := Lib.hid (And.intro (And.intro (stays H0.out.1 hbn) (stays H0.out.2.1 hbn)) (H0.out.2.2.alloc (.cells #[.int .i64 x, .int .i64 y] 3)))
  have hnw := heap_alloc_new Wd (.cells #[.int .i64 x, .int .i64 y] 3)
  obtain ⟨n0, n1, n2, n3, n4⟩ := two_facts hnw
  have HO := Lib.hid (or_any x y Wd.heap.size 0 2 _ n1 n2)
  generalize (if x = 0 then y else x) = z at H HO
  clear hbn hnw n0 n1 n2 n3 n4
  refine turn_heavy rfl (fun K4 hK4 => ?_)
  go_wp2_with fail
  refine (HC1.out _).mono ?_
  rintro e w1 ⟨rfl, rfl⟩
  go_wp2_with fail
  refine hK4 _ _ (fun _ => ⟨H0.out.1, H0.out.2.1⟩) ?_
  try simp only [List.getElem_toArray, List.getElem_cons_succ, List.getElem_cons_zero, Act.put, List.setIfInBounds_toArray, List.set_cons_zero, List.set_cons_succ]
  refine turn_heavy rfl (fun K9 hK9 => ?_)
  go_wp2_with fail
  refine (HC2.out _).mono ?_
  rintro e w1 ⟨rfl, rfl⟩
  go_wp2_with fail
  refine hK9 _ _ (fun _ => ⟨H0.out.1, H0.out.2.1⟩) ?_
  try simp only [List.getElem_toArray, List.getElem_cons_succ, List.getElem_cons_zero, Act.put, List.setIfInBounds_toArray, List.set_cons_zero, List.set_cons_succ]
  refine turn_heavy rfl (fun K10 hK10 => ?_)
  go_wp2_with fail
  refine hK10 _ _ (fun _ => H1.out.1) ?_
  try simp only [List.getElem_toArray, List.getElem_cons_succ, List.getElem_cons_zero, Act.put, List.setIfInBounds_toArray, List.set_cons_zero, List.set_cons_succ]
  refine turn_heavy rfl (fun K11 hK11 => ?_)
  go_wp2_with fail
  refine HO.out.mono ?_
  rintro e w1 ⟨rfl, rfl⟩
  go_wp2_with fail
  refine hK11 _ _ (fun _ => H1.out.1) ?_
  try simp only [List.getElem_toArray, List.getElem_cons_succ, List.getElem_cons_zero, Act.put, List.setIfInBounds_toArray, List.set_cons_zero, List.set_cons_succ]
  refine turn_steady (.bool (decide (z < 0))) rfl rfl (fun W' hS => ?_) ?_
  · go_simp
  try simp only [List.getElem_toArray, List.getElem_cons_succ, List.getElem_cons_zero, Act.put, List.setIfInBounds_toArray, List.set_cons_zero, List.set_cons_succ]
  refine turn_steady (.bool (decide (z < 0))) rfl rfl (fun W' hS => ?_) ?_
  · go_simp
  try simp only [List.getElem_toArray, List.getElem_cons_succ, List.getElem_cons_zero, Act.put, List.setIfInBounds_toArray, List.set_cons_zero, List.set_cons_succ]
  refine turn_end ?_
  go_wp2_with fail
  go_ret
  exact ⟨ret_bool H.out, H1.out.2⟩

set_option maxRecDepth 100000 in
set_option maxHeartbeats 1000000 in
theorem order_any (p n p' n' : ByteArray) (w : World) :
    Calls Tryz.prog 23 #[.agg #[.string p, .string n], .agg #[.string p', .string n']] w (fun e w' => e = .returned (.int .i64 (cfLabel (p, n) (p', n'))) ∧ Grows w w') := by
  have H : Hid (cfLabel (p, n) (p', n') = if labelLt (labelOf (p, n)) (labelOf (p', n')) = true then -1 else if labelLt (labelOf (p', n')) (labelOf (p, n)) = true then 1 else 0) := Lib.hid rfl
  have HC1 := Lib.hid (fun W => less_any p n p' n' W)
  have HC2 := Lib.hid (fun W => less_any p' n' p n W)
  generalize labelLt (labelOf (p, n)) (labelOf (p', n')) = r at H HC1
  generalize labelLt (labelOf (p', n')) (labelOf (p, n)) = r' at H HC2
  generalize cfLabel (p, n) (p', n') = z at H ⊢
  obtain ⟨a1, a2, a3, a4⟩ := alloc2 w (.cells #[.string p, .string n] 41) (.cells #[.string p', .string n'] 41)
  have H0 := Lib.hid (And.intro a1 (And.intro a2 (((Grows.refl w).alloc (.cells #[.string p, .string n] 41)).alloc (.cells #[.string p', .string n'] 41))))
  clear a1 a2 a3 a4
  go_enter Tryz.func23, Tryz.ntmps23
  go_wp2_with fail
  refine (HC1.out _).mono ?_
  rintro e w1 ⟨rfl, hg⟩
  have H1 := Lib.hid (And.intro (stays H0.out.1 hg.below) (And.intro (stays H0.out.2.1 hg.below) (H0.out.2.2.trans hg)))
  clear hg H0
  obtain ⟨s0, s1, s2, s3, s4⟩ := two_facts H1.out.1
  obtain ⟨t0, t1, t2, t3, t4⟩ := two_facts H1.out.2.1
  cases r with
  | true =>
    go_wp2_with fail
    go_ret
    exact ⟨ret_int H.out.symm, H1.out.2.2⟩
  | false =>
    go_wp2_with fail
    refine (HC2.out _).mono ?_
    rintro e w2 ⟨rfl, hg⟩
    have H2 := Lib.hid (H1.out.2.2.trans hg)
    clear hg s0 s1 s2 s3 s4 t0 t1 t2 t3 t4 H1
    cases r' with
    | true =>
      go_wp2_with fail
      go_ret
      exact ⟨ret_int H.out.symm, H2.out⟩
    | false =>
      go_wp2_with fail
      go_ret
      exact ⟨ret_int H.out.symm, H2.out⟩
end Go.Proofs.YthknljeffpbbmaaGreatDoor
