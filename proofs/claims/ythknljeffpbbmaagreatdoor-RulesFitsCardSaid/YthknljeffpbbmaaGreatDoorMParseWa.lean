/-
  The walks of the parser's end and Read.
  What Read hands back; the walks of its deferred closure.
-/
import Derived.Defers
import Derived.Recover
import Derived.Test.YthknljeffpbbmaaGreatDoorMParseT
namespace Go.Proofs.YthknljeffpbbmaaGreatDoor
open Go Go.RowKit

def endStep (p : Int × Int) (c : UInt8) : Int × Int := if c = 10 then (p.1 + 1, 1) else (p.1, p.2 + 1)
theorem endL_eq (l : List UInt8) : endL l = l.foldl endStep (1, 1) := rfl
theorem end_bound (l : List UInt8) : ∀ p : Int × Int, 0 ≤ p.1 → 0 ≤ p.2 → 0 ≤ (l.foldl endStep p).1 ∧ 0 ≤ (l.foldl endStep p).2 ∧ (l.foldl endStep p).1 ≤ p.1 + l.length ∧ (l.foldl endStep p).2 ≤ p.2 + 1 + l.length := by
  induction l with
  | nil => intro p h1 h2; exact ⟨h1, h2, by simp, by simp; omega⟩
  | cons c t ih =>
    intro p h1 h2
    rw [List.foldl_cons]
    by_cases hc : c = 10
    · rw [show endStep p c = (p.1 + 1, 1) from if_pos hc]
      obtain ⟨a, b, d, e⟩ := ih (p.1 + 1, 1) (by simp; omega) (by simp)
      refine ⟨a, b, by simp at d ⊢; omega, by simp at e ⊢; omega⟩
    · rw [show endStep p c = (p.1, p.2 + 1) from if_neg hc]
      obtain ⟨a, b, d, e⟩ := ih (p.1, p.2 + 1) h1 (by simp; omega)
      refine ⟨a, b, by simp at d ⊢; omega, by simp at e ⊢; omega⟩

def PEnd (p : Int × Int) (w : World) (e : Ending) (w' : World) : Prop := e = .returned (.agg #[.int .i64 p.1, .int .i64 p.2]) ∧ Below w.heap.size w w'
set_option maxRecDepth 100000 in
set_option maxHeartbeats 1000000 in
theorem end_any (s : ByteArray) (w : World) (hs : s.size ≤ 65536) : Calls Tryz.prog 102 #[.string s] w (PEnd (endL s.data.toList) w) := by
  go_enter Tryz.func102, Tryz.ntmps102
  go_wp2
  go_loopw [8] (fun i wr => ∃ (k : Nat) (p : Int × Int), k ≤ s.size ∧ i = .int .i64 k ∧ Hid (p = (s.data.toList.take k).foldl endStep (1, 1)) ∧ wr = (w.alloc (.cells #[.int .i64 0, .int .i64 0] 25)).alloc (.cells #[.int .i64 p.1, .int .i64 p.2] 25)) (fun i _ => s.size - (intOf i).toNat)
  case atStart => exact ⟨0, (1, 1), Nat.zero_le _, rfl, Lib.hid rfl, rfl⟩
  case round =>
    obtain ⟨k, p, hk, rfl, hp, rfl⟩ := hrel
    have hl : (s.data.toList.take k).length ≤ k := List.length_take_le _ _
    obtain ⟨b1, b2, b3, b4⟩ := end_bound (s.data.toList.take k) (1, 1) (by simp) (by simp)
    rw [← hp.out] at b1 b2 b3 b4
    simp only at b3 b4
    by_cases hlt : k < s.size
    · have Hsn : Hid ((s.data.toList.take (k + 1)).foldl endStep (1, 1) = endStep p s[k]) := Lib.hid (by
        rw [List.take_succ_eq_append_getElem (by rw [len_data]; exact hlt), List.foldl_append, ← hp.out]; rfl)
      cases hc : (((s[k] : UInt8).toNat : Int) == 10)
      · have hne : (s[k] : UInt8) ≠ 10 := by intro e; rw [e] at hc; cases hc
        have Hst : Hid (endStep p s[k] = (p.1, p.2 + 1)) := Lib.hid (by unfold endStep; rw [if_neg hne])
        clear hne
        go_wp2
        go_roundw
        case rel => exact ⟨k + 1, (p.1, p.2 + 1), by omega, by go_num, Lib.hid (by rw [Hsn.out, Hst.out]), rfl⟩
        case measure => simp [intOf]; omega
      · have hne : (s[k] : UInt8) = 10 := by
          have : ((s[k] : UInt8).toNat : Int) = 10 := by simpa using hc
          exact UInt8.toNat_inj.1 (by show _ = 10; omega)
        have Hst : Hid (endStep p s[k] = (p.1 + 1, 1)) := Lib.hid (by unfold endStep; rw [if_pos hne])
        clear hne
        go_wp2
        go_roundw
        case rel => exact ⟨k + 1, (p.1 + 1, 1), by omega, by go_num, Lib.hid (by rw [Hsn.out, Hst.out]), rfl⟩
        case measure => simp [intOf]; omega
    · have Hfin : Hid (endL s.data.toList = p) := Lib.hid (by rw [endL_eq, hp.out, List.take_of_length_le (by rw [len_data]; omega)])
      go_wp2
      refine bodyPost_ret (v := .agg #[.int .i64 p.1, .int .i64 p.2]) (by simp [results, Tryz.results102, go_sem]) rfl ?_
      rw [Hfin.out]
      exact ⟨rfl, ((Below.refl _ w).alloc (Nat.le_refl _) _).alloc (by simp) _⟩
end Go.Proofs.YthknljeffpbbmaaGreatDoor
namespace Go.Proofs.YthknljeffpbbmaaGreatDoor
open Go Go.RowKit

/-- What Read hands back. -/
def PRead (s : ByteArray) (w : World) (e : Ending) (w' : World) : Prop :=
  Below w.heap.size w w' ∧ match readL s.data.toList with
    | some (.ok n) => ∃ v, e = .returned (.tuple #[v, .int .i64 0, .agg #[.int .i64 0, .int .i64 0]]) ∧ NodeV (fun b => w.heap.size ≤ b) w' n v
    | some (.error x) => e = .returned (.tuple #[.agg zeroNode, .int .i64 x.1, .agg #[.int .i64 x.2.1, .int .i64 x.2.2]])
    | none => True

/-- The boxes of Read's results. -/
structure RdB (w W : World) (n : Array Value) (e l c : Int) : Prop where
  below : Below w.heap.size w W
  a : W.heap[w.heap.size]? = some (.cells n 83 (0, 0))
  b : W.heap[w.heap.size + 1]? = some (.cells #[.int .i64 e] 45 (0, 0))
  c : W.heap[w.heap.size + 1 + 1]? = some (.cells #[.int .i64 l, .int .i64 c] 25 (0, 0))
section
variable {w W W' : World} {n : Array Value} {e l c : Int}
theorem RdB.later (h : RdB w W n e l c) (hb : Below W.heap.size W W') : RdB w W' n e l c :=
  ⟨h.below.trans (hb.mono h.below.size), (hb.block _ (Array.getElem?_eq_some_iff.1 h.a).1).trans h.a, (hb.block _ (Array.getElem?_eq_some_iff.1 h.b).1).trans h.b, (hb.block _ (Array.getElem?_eq_some_iff.1 h.c).1).trans h.c⟩
theorem RdB.setB (h : RdB w W n e l c) (x : Int) : RdB w (W.setCell ⟨w.heap.size + 1, 0, none⟩ (.int .i64 x)) n x l c :=
  ⟨h.below.setCell (p := ⟨w.heap.size + 1, 0, none⟩) (by simp) _, (set_other (by omega) 0 _).trans h.a, by rw [set_same h.b 0]; rfl, (set_other (by omega) 0 _).trans h.c⟩
theorem RdB.setC (h : RdB w W n e l c) (x y : Int) : RdB w ((W.setCell ⟨w.heap.size + 1 + 1, 0, none⟩ (.int .i64 x)).setCell ⟨w.heap.size + 1 + 1, 1, none⟩ (.int .i64 y)) n e x y :=
  ⟨(h.below.setCell (p := ⟨w.heap.size + 1 + 1, 0, none⟩) (by simp; omega) _).setCell (p := ⟨w.heap.size + 1 + 1, 1, none⟩) (by simp; omega) _, ((set_other (by omega) 1 _).trans (set_other (by omega) 0 _)).trans h.a, ((set_other (by omega) 1 _).trans (set_other (by omega) 0 _)).trans h.b,
    by rw [set_same (set_same h.c 0 (.int .i64 x)) 1]; rfl⟩
theorem RdB.setA {x0 x1 x2 x3 x4 : Value} (h : RdB w W #[x0, x1, x2, x3, x4] e l c) (v0 v1 v2 v3 v4 : Value) :
    RdB w (((((W.setCell ⟨w.heap.size, 0, none⟩ v0).setCell ⟨w.heap.size, 1, none⟩ v1).setCell ⟨w.heap.size, 2, none⟩ v2).setCell ⟨w.heap.size, 3, none⟩ v3).setCell ⟨w.heap.size, 4, none⟩ v4) #[v0, v1, v2, v3, v4] e l c := by
  have hs : ∀ k, k ≠ w.heap.size → (((((W.setCell ⟨w.heap.size, 0, none⟩ v0).setCell ⟨w.heap.size, 1, none⟩ v1).setCell ⟨w.heap.size, 2, none⟩ v2).setCell ⟨w.heap.size, 3, none⟩ v3).setCell ⟨w.heap.size, 4, none⟩ v4).heap[k]? = W.heap[k]? := fun k hk => by
    rw [set_other hk, set_other hk, set_other hk, set_other hk, set_other hk]
  refine ⟨((((h.below.setCell (p := ⟨w.heap.size, 0, none⟩) (Nat.le_refl _) _).setCell (p := ⟨w.heap.size, 1, none⟩) (Nat.le_refl _) _).setCell (p := ⟨w.heap.size, 2, none⟩) (Nat.le_refl _) _).setCell (p := ⟨w.heap.size, 3, none⟩) (Nat.le_refl _) _).setCell (p := ⟨w.heap.size, 4, none⟩) (Nat.le_refl _) _, ?_, (hs _ (by omega)).trans h.b, (hs _ (by omega)).trans h.c⟩
  rw [set_same (set_same (set_same (set_same (set_same h.a 0 v0) 1 v1) 2 v2) 3 v3) 4 v4]
  rfl
end
theorem rdB_start (w : World) : RdB w (((w.alloc (.cells #[.int .i64 0, .string ⟨#[]⟩, .int .i64 0, .int .i64 0, .slice none 0 0] 83)).alloc (.cells #[.int .i64 0] 45)).alloc (.cells #[.int .i64 0, .int .i64 0] 25)) #[.int .i64 0, .string ⟨#[]⟩, .int .i64 0, .int .i64 0, .slice none 0 0] 0 0 0 := by
  refine ⟨(((Below.refl _ w).alloc (Nat.le_refl _) _).alloc (by simp) _).alloc (by simp; omega) _, ?_, ?_, ?_⟩
  · rw [Below.heap_alloc _ _ _ (by simp; omega), Below.heap_alloc _ _ _ (by simp)]; exact heap_alloc_new w _
  · rw [Below.heap_alloc _ _ _ (by simp)]
    have := heap_alloc_new (w.alloc (.cells #[.int .i64 0, .string ⟨#[]⟩, .int .i64 0, .int .i64 0, .slice none 0 0] 83)) (.cells #[.int .i64 0] 45)
    simpa using this
  · have := heap_alloc_new ((w.alloc (.cells #[.int .i64 0, .string ⟨#[]⟩, .int .i64 0, .int .i64 0, .slice none 0 0] 83)).alloc (.cells #[.int .i64 0] 45)) (.cells #[.int .i64 0, .int .i64 0] 25)
    simpa using this

theorem one_wfacts {w : World} {b : Nat} {x : Value} {t : TypeId} (h : w.heap[b]? = some (.cells #[x] t (0, 0))) : w.cell? ⟨b, 0, none⟩ = some x ∧ w.frozen? ⟨b, 0, none⟩ = false := by
  obtain ⟨h1, h2, h3⟩ := block_facts h
  exact ⟨h2 0, h3 0⟩
theorem set5_other {W : World} {b k : Nat} (hk : k ≠ b) (v0 v1 v2 v3 v4 : Value) : (((((W.setCell ⟨b, 0, none⟩ v0).setCell ⟨b, 1, none⟩ v1).setCell ⟨b, 2, none⟩ v2).setCell ⟨b, 3, none⟩ v3).setCell ⟨b, 4, none⟩ v4).heap[k]? = W.heap[k]? := by
  rw [set_other hk, set_other hk, set_other hk, set_other hk, set_other hk]
theorem assert_nil (W : World) : (Instr.typeAssert .nilIface 20 150 true).run Tryz.prog W = .ok (.tuple #[.agg #[.int .i64 0, .int .i64 0, .int .i64 0], .bool false]) W := by kernel_rfl
theorem assert_wrong (W : World) (v : Value) : (Instr.typeAssert (.iface 150 v) 20 150 true).run Tryz.prog W = .ok (.tuple #[v, .bool true]) W := by kernel_rfl
set_option maxRecDepth 100000 in
set_option maxHeartbeats 1000000 in
/-- The deferred closure, where nothing broke off. -/
theorem caught_none (w W : World) (n : Array Value) (e l c : Int) (h : RdB w W n e l c) :
    CallsD Tryz.prog 101 #[.pointer (some ⟨w.heap.size, 0, none⟩), .pointer (some ⟨w.heap.size + 1, 0, none⟩), .pointer (some ⟨w.heap.size + 1 + 1, 0, none⟩)] .returning W
      (fun e' u' w' => e' = .returned (.tuple #[]) ∧ u' = .returning ∧ RdB w w' n e l c ∧ Below W.heap.size W w') := by
  have H := Lib.hid h
  clear h
  have hta := assert_nil
  refine callsD_of_wpS Tryz.func101 rfl fun c₀ cs hu => ?_
  apply wpS_seq
  apply wpS_region
  simp [wpOpsS, go_sem, recoverD, hu, Tryz.ntmps101, Exit.thenS]
  refine wpS_of_wp ?_
  simp only [Array.replicate_succ, Array.replicate_zero, List.push_toArray, List.append_toArray, List.nil_append, List.cons_append, List.setIfInBounds_toArray, List.set_cons_zero, List.set_cons_succ]
  go_wp2_with fail
  refine ⟨rfl, _, by cases c₀; simp_all, _, results_none rfl _ _ _, rfl, rfl, H.out.later ((Below.refl _ W).alloc (Nat.le_refl _) _), (Below.refl _ W).alloc (Nat.le_refl _) _⟩
set_option maxRecDepth 100000 in
set_option maxHeartbeats 1000000 in
/-- The deferred closure, where the parser broke off. -/
theorem caught_wrong (w W : World) (x0 x1 x2 x3 x4 : Value) (e l c ex lx cx : Int) (h : RdB w W #[x0, x1, x2, x3, x4] e l c) :
    CallsD Tryz.prog 101 #[.pointer (some ⟨w.heap.size, 0, none⟩), .pointer (some ⟨w.heap.size + 1, 0, none⟩), .pointer (some ⟨w.heap.size + 1 + 1, 0, none⟩)] (.panicking [{ v := wrongV ex lx cx, recovered := false }]) W
      (fun e' u' w' => e' = .returned (.tuple #[]) ∧ u' = .panicking [{ v := wrongV ex lx cx, recovered := true }] ∧ RdB w w' zeroNode ex lx cx) := by
  have H := Lib.hid h
  clear h
  have hta := assert_wrong
  unfold wrongV
  refine callsD_of_wpS Tryz.func101 rfl fun c₀ cs hu => ?_
  apply wpS_seq
  apply wpS_region
  simp [wpOpsS, go_sem, recoverD, hu, Tryz.ntmps101, Exit.thenS]
  refine wpS_of_wp ?_
  simp only [Array.replicate_succ, Array.replicate_zero, List.push_toArray, List.append_toArray, List.nil_append, List.cons_append, List.setIfInBounds_toArray, List.set_cons_zero, List.set_cons_succ]
  go_wp2_with fail
  have H1 := Lib.hid (H.out.later ((Below.refl _ W).alloc (Nat.le_refl _) (.cells #[.int .i64 ex, .int .i64 lx, .int .i64 cx] 150)))
  have hwb := heap_alloc_new W (.cells #[.int .i64 ex, .int .i64 lx, .int .i64 cx] 150)
  have hsz : w.heap.size + 3 ≤ W.heap.size := by
    have := (Array.getElem?_eq_some_iff.1 H.out.c).1
    omega
  generalize hW : W.alloc (.cells #[.int .i64 ex, .int .i64 lx, .int .i64 cx] 150) = W1 at H1 hwb ⊢
  generalize hwq : W.heap.size = wb at hwb hsz ⊢
  have Hwb := Lib.hid hwb
  clear hW hwq hwb H
  refine wp_region_turns (.s 0 (.s 1 (.s 2 (.s 3 (.s 4 (.h 5 (.h 6 (.h 7 .nil)))))))) 99 (fun W' => W'.heap[wb]? = some (.cells #[.int .i64 ex, .int .i64 lx, .int .i64 cx] 150 (0, 0))) (by kernel_rfl) (by kernel_rfl) (fun c a d v w h => by cases d <;> exact h) Hwb.out ?_
  have H1d := Lib.hid (H1.out.later ((Below.refl _ W1).drew))
  have Hwbd : Hid (W1.drew.heap[wb]? = some (.cells #[.int .i64 ex, .int .i64 lx, .int .i64 cx] 150 (0, 0))) := Lib.hid Hwb.out
  generalize W1.drew = Wd at H1d Hwbd ⊢
  clear H1 Hwb
  refine turn_steady (.agg #[.int .i64 0, .string ⟨#[]⟩, .int .i64 0, .int .i64 0, .slice none 0 0]) rfl rfl (fun W' hS => ?_) ?_
  · go_simp
  try simp only [List.getElem_toArray, List.getElem_cons_zero, Act.put, List.setIfInBounds_toArray, List.set_cons_zero, List.set_cons_succ]
  refine turn_steady (.pointer (some ⟨wb, 0, none⟩)) rfl rfl (fun W' hS => ?_) ?_
  · go_simp
  try simp only [List.getElem_toArray, List.getElem_cons_succ, List.getElem_cons_zero, Act.put, List.setIfInBounds_toArray, List.set_cons_zero, List.set_cons_succ]
  refine turn_steady (.int .i64 ex) rfl rfl (fun W' hS => ?_) ?_
  · obtain ⟨s0, s1, s2, s3, s4, s5, s6⟩ := three_facts hS
    clear hS
    go_simp
  try simp only [List.getElem_toArray, List.getElem_cons_succ, List.getElem_cons_zero, Act.put, List.setIfInBounds_toArray, List.set_cons_zero, List.set_cons_succ]
  refine turn_steady (.pointer (some ⟨wb, 1, none⟩)) rfl rfl (fun W' hS => ?_) ?_
  · go_simp
  try simp only [List.getElem_toArray, List.getElem_cons_succ, List.getElem_cons_zero, Act.put, List.setIfInBounds_toArray, List.set_cons_zero, List.set_cons_succ]
  refine turn_steady (.agg #[.int .i64 lx, .int .i64 cx]) rfl rfl (fun W' hS => ?_) ?_
  · obtain ⟨s0, s1, s2, s3, s4, s5, s6⟩ := three_facts hS
    clear hS
    go_simp
  try simp only [List.getElem_toArray, List.getElem_cons_succ, List.getElem_cons_zero, Act.put, List.setIfInBounds_toArray, List.set_cons_zero, List.set_cons_succ]
  obtain ⟨r0, r1, r2, r3, r4, r5, r6, r7, r8, r9, r10⟩ := five_facts H1d.out.a
  refine turn_heavy rfl (fun Kx hKx => ?_)
  go_wp2_with fail
  have H2 := Lib.hid (H1d.out.setA (.int .i64 0) (.string ⟨#[]⟩) (.int .i64 0) (.int .i64 0) (.slice none 0 0))
  have Hwb2 := Lib.hid ((set5_other (W := Wd) (b := w.heap.size) (k := wb) (by omega) (.int .i64 0) (.string ⟨#[]⟩) (.int .i64 0) (.int .i64 0) (.slice none 0 0)).trans Hwbd.out)
  refine hKx _ _ (fun _ => Hwb2.out) ?_
  generalize World.setCell _ _ _ = W2 at H2 Hwb2 ⊢
  try simp only [List.getElem_toArray, List.getElem_cons_succ, List.getElem_cons_zero, Act.put, List.setIfInBounds_toArray, List.set_cons_zero, List.set_cons_succ]
  clear r0 r1 r2 r3 r4 r5 r6 r7 r8 r9 r10 hKx
  obtain ⟨b0, b1⟩ := one_wfacts H2.out.b
  refine turn_heavy rfl (fun Ky hKy => ?_)
  go_wp2_with fail
  have H3 := Lib.hid (H2.out.setB ex)
  have Hwb3 := Lib.hid ((set_other (w := W2) (b := w.heap.size + 1) (k := wb) (by omega) 0 (.int .i64 ex)).trans Hwb2.out)
  refine hKy _ _ (fun _ => Hwb3.out) ?_
  generalize World.setCell _ _ _ = W3 at H3 Hwb3 ⊢
  try simp only [List.getElem_toArray, List.getElem_cons_succ, List.getElem_cons_zero, Act.put, List.setIfInBounds_toArray, List.set_cons_zero, List.set_cons_succ]
  clear b0 b1 hKy
  obtain ⟨c0, c1, c2, c3, c4⟩ := two_facts H3.out.c
  refine turn_heavy rfl (fun Kz hKz => ?_)
  go_wp2_with fail
  have H4 := Lib.hid (H3.out.setC lx cx)
  have Hwb4 := Lib.hid (((set_other (w := W3.setCell ⟨w.heap.size + 1 + 1, 0, none⟩ (.int .i64 lx)) (b := w.heap.size + 1 + 1) (k := wb) (by omega) 1 (.int .i64 cx)).trans (set_other (by omega) 0 (.int .i64 lx))).trans Hwb3.out)
  refine hKz _ _ (fun _ => Hwb4.out) ?_
  refine turn_end ?_
  refine ⟨rfl, _, rfl, _, results_none rfl _ _ _, rfl, rfl, H4.out⟩
end Go.Proofs.YthknljeffpbbmaaGreatDoor
