/-
  The statements' example, read.
  The walk of the statements' example.
-/
import Derived.Test.YtmmflgbhgjefmaaGreatDoorRun
import Derived.Test.YtmmflgbhgjefmaaGreatDoorMAliveTree
import Derived.Test.YtmmflgbhgjefmaaGreatDoorMParseX
namespace Go.Proofs.YtmmflgbhgjefmaaGreatDoor
open Go Go.RowKit

def plainV : Value := .iface 58 (.agg #[])
theorem plain_any (w : World) : Calls Tryz.prog 8 #[] w (fun e w' => e = .returned plainV ∧ Below w.heap.size w w') := by
  go_enter Tryz.func8, Tryz.ntmps8
  go_wp2_with fail
  exact bodyPost_ret (v := plainV) (by simp [plainV, results, Tryz.results8, go_sem]) rfl ⟨rfl, Below.refl _ _⟩
theorem alive_sort : sortN [(⟨#[120]⟩, intV 6), (⟨#[105]⟩, intV 3)] = [(⟨#[105]⟩, intV 3), (⟨#[120]⟩, intV 6)] := by
  have h : sortKeys [(⟨#[120]⟩, intV 6), (⟨#[105]⟩, intV 3)] = [[105], [120]] := by
    unfold sortKeys
    have hp : ([[120], [105]] : List (List UInt8)).Perm [[105], [120]] := List.Perm.swap _ _ _
    have h2 : ([[120], [105]] : List (List UInt8)).mergeSort leB = [[105], [120]] := by
      rw [mergeSort_of_perm hp]
      exact List.mergeSort_of_pairwise (by decide)
    exact h2
  unfold sortN
  rw [h]
  rfl
theorem alive_ne : readL aliveText.data.toList ≠ none := by rw [alive_read]; exact fun h => by cases h
theorem aread_any (w : World) (hw : StdE w) : Calls Tryz.prog 13 #[.string ⟨#[120, 32, 61, 32, 49, 59, 32, 102, 111, 114, 32, 105, 32, 105, 110, 32, 91, 50, 44, 32, 51, 93, 32, 123, 32, 120, 32, 61, 32, 120, 32, 43, 32, 105, 59, 32, 125]⟩] w
    (fun e w' => Below w.heap.size w w' ∧ ∃ a cap, e = .returned (.tuple #[.agg #[.int .i64 1, .string ⟨#[]⟩, .int .i64 1, .int .i64 1, .slice a 2 cap], .int .i64 0, .agg #[.int .i64 0, .int .i64 0]]) ∧ RowAt (fun b => w.heap.size ≤ b) w' a (nodesD aliveKids)) := by
  have h := read_any aliveText w (show (37 : Nat) ≤ _ by decide) hw alive_ne
  refine h.mono ?_
  intro e w' hq
  unfold PRead at hq
  rw [alive_read] at hq
  obtain ⟨hb, v, rfl, hv⟩ := hq
  obtain ⟨a, cap, rfl, hr⟩ := hv.open
  exact ⟨hb, a, cap, rfl, hr⟩
end Go.Proofs.YtmmflgbhgjefmaaGreatDoor
namespace Go.Proofs.YtmmflgbhgjefmaaGreatDoor
open Go Go.RowKit

theorem run14_any (G : Nat → Prop) (a : Option Addr) (cap : Nat) (w : World) (hG : ∀ b, G b → b < w.heap.size) (hr : RowAt G w a (nodesD aliveKids)) :
    Calls Tryz.prog 14 #[.slice a 2 cap, .slice none 0 0, .iface 58 (.agg #[]), .int .i64 14] w (fun e w' => Below w.heap.size w w' ∧ ∃ b off c1, e = .returned (.tuple #[.slice (some ⟨b, off, none⟩) 2 c1, .int .i64 0, .agg #[.int .i64 0, .int .i64 0]]) ∧
      w'.cell? ⟨b, off + 6, none⟩ = some (.string ⟨#[120]⟩) ∧ w'.cell? ⟨b, off + 6 + 2, none⟩ = some (.int .i64 6)) := by
  refine (erun_any 8 G aliveKids a cap 58 (.agg #[]) 14 w (by omega) hG hr alive_small (by decide) (by rw [alive_14]; exact fun h => by cases h) (fun st h => ?_)).mono ?_
  · rw [alive_14] at h
    cases h
    refine ⟨by decide, fun q hq => ?_⟩
    simp only [List.mem_cons, List.not_mem_nil, or_false] at hq
    rcases hq with rfl | rfl <;> exact ⟨rfl, rfl⟩
  · intro e w' hq
    unfold PRun at hq
    rw [alive_14] at hq
    obtain ⟨hb, a1, c1, he, hrow⟩ := hq
    simp only [alive_sort] at he hrow
    obtain ⟨b, off, x1, y1, x2, y2, rfl, -, -, q0, q1, q2, -⟩ := hrow.named (j := 1) (nm := ⟨#[120]⟩) (k := 2) (n := 6) (s := ⟨#[]⟩) (m := []) (ks := []) rfl
    exact ⟨hb, b, off, c1, he, by simpa using q0, by simpa using q2⟩
theorem run13_any (G : Nat → Prop) (a : Option Addr) (cap : Nat) (w : World) (hG : ∀ b, G b → b < w.heap.size) (hr : RowAt G w a (nodesD aliveKids)) :
    Calls Tryz.prog 14 #[.slice a 2 cap, .slice none 0 0, .iface 58 (.agg #[]), .int .i64 13] w (fun e w' => Below w.heap.size w w' ∧ e = .returned (.tuple #[.slice none 0 0, .int .i64 12, .agg #[.int .i64 1, .int .i64 34]])) := by
  refine (erun_any 8 G aliveKids a cap 58 (.agg #[]) 13 w (by omega) hG hr alive_small (by decide) (by rw [alive_13]; exact fun h => by cases h) (fun st h => ?_)).mono ?_
  · rw [alive_13] at h
    cases h
  · intro e w' hq
    unfold PRun at hq
    rw [alive_13] at hq
    exact hq

set_option maxRecDepth 100000 in
set_option maxHeartbeats 4000000 in
theorem alive_any (w : World) (hw : StdE w) : Calls Tryz.prog 5 #[] w (fun e w' => e = .returned (.bool true) ∧ Below w.heap.size w w') := by
  have Hrd := Lib.hid (aread_any w hw)
  clear hw
  go_enter Tryz.func5, Tryz.ntmps5
  go_wp2_with fail
  refine Hrd.out.mono ?_
  rintro e w1 ⟨hb1, a, cap, rfl, hrow⟩
  have Hrow := Lib.hid (hrow.here)
  have Hb1 := Lib.hid hb1
  obtain ⟨n1, n2, n3, n4⟩ := alloc2 w1 (.cells #[.int .i64 1, .string ⟨#[]⟩, .int .i64 1, .int .i64 1, .slice a 2 cap] 51) (.cells #[.int .i64 0, .int .i64 0] 24)
  have H2 := Lib.hid (And.intro n1 (And.intro (hrow.here.below n3) (hb1.trans (n3.mono hb1.size))))
  clear hb1 hrow Hrd Hb1 Hrow n1 n2 n3 n4
  go_wp2_with fail
  generalize World.alloc _ _ = W2 at H2 ⊢
  refine (plain_any _).mono ?_
  rintro e w3 ⟨rfl, hb3⟩
  have H3 := Lib.hid (And.intro (stays H2.out.1 hb3) (And.intro (H2.out.2.1.below hb3) (H2.out.2.2.trans (hb3.mono H2.out.2.2.size))))
  clear hb3 H2
  obtain ⟨q0, q1, q2, q3, q4, q5, q6, q7, q8, q9, q10⟩ := five_facts H3.out.1
  have hbx := here H3.out.1
  unfold plainV
  go_wp2_with fail
  refine (run14_any _ a cap _ (fun b hb => by have : b < w1.heap.size := hb.2; omega) H3.out.2.1).mono ?_
  rintro e w4 ⟨hb4, bx, off, cx, rfl, hx1, hx2⟩
  have hbn : Below w4.heap.size w4 (w4.alloc (.cells #[.int .i64 0, .int .i64 0] 24)) := (Below.refl _ w4).alloc (Nat.le_refl _) _
  have H4 := Lib.hid (And.intro (stays (stays H3.out.1 hb4) hbn) (And.intro ((H3.out.2.1.below hb4).below hbn) ((H3.out.2.2.trans (hb4.mono H3.out.2.2.size)).trans (hbn.mono (H3.out.2.2.trans (hb4.mono H3.out.2.2.size)).size))))
  have Hx : Hid ((w4.alloc (.cells #[.int .i64 0, .int .i64 0] 24)).cell? ⟨bx, off + 6, none⟩ = some (.string ⟨#[120]⟩) ∧ (w4.alloc (.cells #[.int .i64 0, .int .i64 0] 24)).cell? ⟨bx, off + 6 + 2, none⟩ = some (.int .i64 6)) := Lib.hid ⟨(hbn.cell (p := ⟨bx, off + 6, none⟩) (block_of_cell hx1)).trans hx1, (hbn.cell (p := ⟨bx, off + 6 + 2, none⟩) (block_of_cell hx2)).trans hx2⟩
  have hsz4 : w1.heap.size < w4.heap.size := Nat.lt_of_lt_of_le hbx hb4.size
  have h4 := stays H3.out.1 hb4
  have H44 := Lib.hid h4
  clear hb4 hbn hx1 hx2 H3 q0 q1 q2 q3 q4 q5 q6 q7 q8 q9 q10
  obtain ⟨q0, q1, q2, q3, q4, q5, q6, q7, q8, q9, q10⟩ := five_facts h4
  go_wp2_with fail
  generalize World.alloc _ _ = W5 at H4 Hx ⊢
  clear q0 q1 q2 q3 q4 q5 q6 q7 q8 q9 q10 h4 H44
  refine (run13_any _ a cap _ (fun b hb => by have : b < w1.heap.size := hb.2; have := here H4.out.1; omega) H4.out.2.1).mono ?_
  rintro e w6 ⟨hb6, rfl⟩
  have x0 := (hb6.cell (p := ⟨bx, off + 6, none⟩) (block_of_cell Hx.out.1)).trans Hx.out.1
  have x1 := (hb6.cell (p := ⟨bx, off + 6 + 2, none⟩) (block_of_cell Hx.out.2)).trans Hx.out.2
  have hbx6 := block_of_cell x0
  have x2 : w6.cell? ⟨bx, off + 6 + 1 + 1, none⟩ = some (.int .i64 6) := x1
  have Hb6 := Lib.hid (H4.out.2.2.trans (hb6.mono H4.out.2.2.size))
  clear hb6 Hx H4
  go_wp2_with fail
  exact bodyPost_ret (v := .bool true) (by simp [results, Tryz.results5, go_sem]) rfl ⟨rfl, Hb6.out.alloc Hb6.out.size _⟩
end Go.Proofs.YtmmflgbhgjefmaaGreatDoor
