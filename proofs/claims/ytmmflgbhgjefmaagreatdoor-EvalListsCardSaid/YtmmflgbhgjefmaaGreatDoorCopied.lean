/-
  The walk of the evaluator's copied, at a value in which nothing lies.
-/
import Derived.Test.YtmmflgbhgjefmaaGreatDoorMOwnS
import Derived.Test.YtmmflgbhgjefmaaGreatDoorMTexts
import Derived.Lib.SliceRun
namespace Go.Proofs.YtmmflgbhgjefmaaGreatDoor
open Go Go.RowKit

def PNone (w : World) (e : Ending) (w' : World) : Prop := ∃ a c, e = .returned (.slice a 0 c) ∧ Below w.heap.size w w'
theorem own_empty {w : World} (e : TypeId) (size : Nat) {v : Value} {w' : World} {base : Nat} (h : w'.ownsRow base e size v 0 []) : ∃ a c, v = .slice a 0 c := by
  obtain ⟨-, ⟨rfl, -⟩ | ⟨g, cap, cur, rfl, -⟩⟩ := h
  · exact ⟨_, _, rfl⟩
  · exact ⟨_, _, rfl⟩

set_option maxRecDepth 100000 in
set_option maxHeartbeats 1000000 in
theorem cloneStr_none (a : Option Addr) (cap : Nat) (w : World) : Calls Tryz.prog 52 #[.slice a 0 cap] w (PNone w) := by
  have hq : ∀ w, (binOp .eql 29 (.slice a 0 cap) (.slice none 0 0)).run Tryz.prog w = .ok (.bool a.isNone) w := fun w => Lib.run_eql_slice_nil w 29 9 a 0 cap 0 0 Tryz.underlying29
  cases a with
  | none =>
    go_enter Tryz.func52, Tryz.ntmps52
    go_wp2_with fail
    refine bodyPost_ret (v := .slice none 0 0) (by simp [results, Tryz.results52, go_sem]) rfl ?_
    exact ⟨_, _, rfl, Below.refl _ _⟩
  | some ad =>
    go_enter Tryz.func52, Tryz.ntmps52
    go_wp2_with fail
    refine bodyPost_ret (v := .slice (some ⟨w.heap.size, 0, none⟩) 0 0) (by simp [results, Tryz.results52, go_sem]) rfl ?_
    exact ⟨_, _, rfl, (Below.refl _ w).alloc (Nat.le_refl _) _⟩
set_option maxRecDepth 100000 in
set_option maxHeartbeats 1000000 in
theorem cloneVal_none (a : Option Addr) (cap : Nat) (w : World) : Calls Tryz.prog 53 #[.slice a 0 cap] w (PNone w) := by
  have hq : ∀ w, (binOp .eql 28 (.slice a 0 cap) (.slice none 0 0)).run Tryz.prog w = .ok (.bool a.isNone) w := fun w => Lib.run_eql_slice_nil w 28 31 a 0 cap 0 0 Tryz.underlying28
  cases a with
  | none =>
    go_enter Tryz.func53, Tryz.ntmps53
    go_wp2_with fail
    refine bodyPost_ret (v := .slice none 0 0) (by simp [results, Tryz.results53, go_sem]) rfl ?_
    exact ⟨_, _, rfl, Below.refl _ _⟩
  | some ad =>
    go_enter Tryz.func53, Tryz.ntmps53
    go_wp2_with fail
    refine bodyPost_ret (v := .slice (some ⟨w.heap.size, 0, none⟩) 0 0) (by simp [results, Tryz.results53, go_sem]) rfl ?_
    exact ⟨_, _, rfl, (Below.refl _ w).alloc (Nat.le_refl _) _⟩
set_option maxRecDepth 100000 in
set_option maxHeartbeats 1000000 in
theorem copied_flat (k n : Int) (s : ByteArray) (a : Option Addr) (c : Nat) (a' : Option Addr) (c' : Nat) (w : World) : Calls Tryz.prog 39 #[.agg #[.int .i64 k, .int .i64 n, .string s, .slice a 0 c, .slice a' 0 c']] w
    (fun e w' => ∃ b d b' d', e = .returned (.agg #[.int .i64 k, .int .i64 n, .string s, .slice b 0 d, .slice b' 0 d']) ∧ Below w.heap.size w w') := by
  obtain ⟨h1, h2, h3, h4⟩ := alloc2 w (.cells #[.int .i64 k, .int .i64 n, .string s, .slice a 0 c, .slice a' 0 c'] 31) (.cells #[.int .i64 0, .int .i64 0, .string ⟨#[]⟩, .slice none 0 0, .slice none 0 0] 31)
  have H0 := Lib.hid (And.intro h1 (And.intro h2 h3))
  clear h1 h2 h3 h4
  go_enter Tryz.func39, Tryz.ntmps39
  go_wp2_with fail
  refine (cloneStr_none a' c' _).mono ?_
  rintro e w1 ⟨b', d', rfl, hb1⟩
  have H1 := Lib.hid (And.intro (stays H0.out.1 hb1) (And.intro (stays H0.out.2.1 hb1) (H0.out.2.2.trans (hb1.mono H0.out.2.2.size))))
  clear hb1 H0
  obtain ⟨q0, q1, q2, q3, q4, q5, q6, q7, q8, q9, q10⟩ := five_facts H1.out.1
  go_wp2_with fail
  have H2 : Hid ((w1.setCell ⟨w.heap.size, 4, none⟩ (.slice b' 0 d')).heap[w.heap.size]? = some (.cells #[.int .i64 k, .int .i64 n, .string s, .slice a 0 c, .slice b' 0 d'] 31 (0, 0)) ∧ (w1.setCell ⟨w.heap.size, 4, none⟩ (.slice b' 0 d')).heap[w.heap.size + 1]? = some (.cells #[.int .i64 0, .int .i64 0, .string ⟨#[]⟩, .slice none 0 0, .slice none 0 0] 31 (0, 0)) ∧ Below w.heap.size w (w1.setCell ⟨w.heap.size, 4, none⟩ (.slice b' 0 d'))) := Lib.hid
    ⟨by rw [set_same H1.out.1 4]; rfl, (set_other (by omega) 4 _).trans H1.out.2.1, H1.out.2.2.setCell (p := ⟨w.heap.size, 4, none⟩) (Nat.le_refl _) _⟩
  generalize World.setCell _ _ _ = W2 at H2 ⊢
  clear q0 q1 q2 q3 q4 q5 q6 q7 q8 q9 q10 H1
  refine (cloneVal_none a c _).mono ?_
  rintro e w3 ⟨b, d, rfl, hb3⟩
  have H3 := Lib.hid (And.intro (stays H2.out.1 hb3) (And.intro (stays H2.out.2.1 hb3) (H2.out.2.2.trans (hb3.mono H2.out.2.2.size))))
  clear hb3 H2
  obtain ⟨q0, q1, q2, q3, q4, q5, q6, q7, q8, q9, q10⟩ := five_facts H3.out.1
  go_wp2_with fail
  have H4 : Hid ((w3.setCell ⟨w.heap.size, 3, none⟩ (.slice b 0 d)).heap[w.heap.size]? = some (.cells #[.int .i64 k, .int .i64 n, .string s, .slice b 0 d, .slice b' 0 d'] 31 (0, 0)) ∧ (w3.setCell ⟨w.heap.size, 3, none⟩ (.slice b 0 d)).heap[w.heap.size + 1]? = some (.cells #[.int .i64 0, .int .i64 0, .string ⟨#[]⟩, .slice none 0 0, .slice none 0 0] 31 (0, 0)) ∧ Below w.heap.size w (w3.setCell ⟨w.heap.size, 3, none⟩ (.slice b 0 d))) := Lib.hid
    ⟨by rw [set_same H3.out.1 3]; rfl, (set_other (by omega) 3 _).trans H3.out.2.1, H3.out.2.2.setCell (p := ⟨w.heap.size, 3, none⟩) (Nat.le_refl _) _⟩
  generalize World.setCell _ _ _ = W4 at H4 ⊢
  clear q0 q1 q2 q3 q4 q5 q6 q7 q8 q9 q10 H3
  go_loopw [16] (fun i wr => i = .int .i64 0 ∧ wr = W4) (fun _ _ => 0)
  case atStart => exact ⟨rfl, rfl⟩
  case round =>
    obtain ⟨rfl, rfl⟩ := hrel
    obtain ⟨q0, q1, q2, q3, q4, q5, q6, q7, q8, q9, q10⟩ := five_facts H4.out.1
    obtain ⟨r0, r1, r2, r3, r4, r5, r6, r7, r8, r9, r10⟩ := five_facts H4.out.2.1
    go_wp2_with fail
    refine bodyPost_ret (v := .agg #[.int .i64 k, .int .i64 n, .string s, .slice b 0 d, .slice b' 0 d']) (by simp [results, Tryz.results39, go_sem, r0, r1, r2, r3, r4, r5]) rfl ?_
    exact ⟨_, _, _, _, rfl, ((((H4.out.2.2.setCell (p := ⟨w.heap.size + 1, 0, none⟩) (by show _ ≤ w.heap.size + 1; omega) _).setCell (p := ⟨w.heap.size + 1, 1, none⟩) (by show _ ≤ w.heap.size + 1; omega) _).setCell (p := ⟨w.heap.size + 1, 2, none⟩) (by show _ ≤ w.heap.size + 1; omega) _).setCell (p := ⟨w.heap.size + 1, 3, none⟩) (by show _ ≤ w.heap.size + 1; omega) _).setCell (p := ⟨w.heap.size + 1, 4, none⟩) (by show _ ≤ w.heap.size + 1; omega) _⟩
end Go.Proofs.YtmmflgbhgjefmaaGreatDoor
