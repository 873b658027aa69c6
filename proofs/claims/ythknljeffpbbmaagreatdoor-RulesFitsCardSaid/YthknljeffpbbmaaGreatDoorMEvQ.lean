/-
  The walks of value.may and Check.
  Plain law: what may be is small. No program in sight.
  The walk of value.Texts: the texts of a list of texts.
  What lies in a value that may be, may be.
-/
import Derived.Deep.DeepCutAuto
import Derived.Deep.CutBlock
import Derived.StillTailTactics
import Derived.Test.YthknljeffpbbmaaGreatDoorMSame0
import Derived.Test.YthknljeffpbbmaaGreatDoorMHeldSkip
namespace Go.Proofs.YthknljeffpbbmaaGreatDoor
open Go Go.RowKit

def PMay (r : Bool × Int) (lb : Nat) (w : World) (e : Ending) (w' : World) : Prop := e = .returned (.bool r.1) ∧ w.grownBy w' (some lb) ∧ w'.heap[lb]? = some (.cells #[.int .i64 r.2] 3 (0, 0))

mutual
/-- Nothing of it is longer than memory is. -/
def smallV : Vl → Prop
  | .mk _ _ s l ks => s.size ≤ 9223372036854775807 ∧ l.length ≤ 140737488355328 ∧ ks.length ≤ 140737488355328 ∧ (∀ s ∈ ks, s.size ≤ 9223372036854775807) ∧ smallVs l
def smallVs : List Vl → Prop
  | [] => True
  | v :: t => smallV v ∧ smallVs t
end
theorem smallVs_mem : ∀ {l : List Vl} {x : Vl}, smallVs l → x ∈ l → smallV x
  | _ :: _, _, h, .head _ => h.1
  | _ :: _, _, h, .tail _ hm => smallVs_mem h.2 hm
def MayC (v : Vl) : Prop := ∀ (F : Nat → Prop) (d m : Int) (lb : Nat) (a1 : Option Addr) (c1 : Nat) (a2 : Option Addr) (c2 : Nat) (w : World), (∀ b, F b → b ≠ lb) → 1 ≤ d → d ≤ 61 → 0 ≤ m → m ≤ 20000 → w.heap[lb]? = some (.cells #[.int .i64 m] 3 (0, 0)) →
  RowAt F w a1 (valsD v.items) → RowAt F w a2 (strsD v.keys) → Calls Tryz.prog 96 #[vCells v.kind v.num v.str a1 v.items.length c1 a2 v.keys.length c2, .int .i64 d, .pointer (some ⟨lb, 0, none⟩)] w (PMay (mayV v d m) lb w)

def PMay1 (r : Bool × Int) (lb : Nat) (w : World) (e : Ending) (w' : World) : Prop := e = .returned (.bool (!r.1)) ∧ w.grownBy w' (some lb) ∧ w'.heap[lb]? = some (.cells #[.int .i64 r.2] 3 (0, 0))
set_option maxRecDepth 100000 in
set_option maxHeartbeats 1000000 in
theorem may1_any (v : Vl) (hv : MayC v) (F : Nat → Prop) (d m : Int) (lb bd bt : Nat) (a1 : Option Addr) (c1 : Nat) (a2 : Option Addr) (c2 : Nat) (w : World) (hF : ∀ b, F b → b ≠ lb) (hd0 : 1 ≤ d) (hd1 : d ≤ 60) (hm0 : 0 ≤ m) (hm1 : m ≤ 20000)
    (hl : w.heap[lb]? = some (.cells #[.int .i64 m] 3 (0, 0))) (hd : w.heap[bd]? = some (.cells #[.int .i64 d] 3 (0, 0))) (ht : w.heap[bt]? = some (.cells #[.pointer (some ⟨lb, 0, none⟩)] 143 (0, 0)))
    (hr1 : RowAt F w a1 (valsD v.items)) (hr2 : RowAt F w a2 (strsD v.keys)) :
    Calls Tryz.prog 124 #[vCells v.kind v.num v.str a1 v.items.length c1 a2 v.keys.length c2, .pointer (some ⟨bd, 0, none⟩), .pointer (some ⟨bt, 0, none⟩)] w (PMay1 (mayV v (d + 1) m) lb w) := by
  obtain ⟨d0, d1⟩ := one_facts hd
  obtain ⟨p0, p1⟩ := one_facts ht
  have hb0 : Below w.heap.size w (w.alloc (.cells #[.int .i64 v.kind, .int .i64 v.num, .string v.str, .slice a1 v.items.length c1, .slice a2 v.keys.length c2] 37)) := (Below.refl _ w).alloc (Nat.le_refl _) _
  have Hc := Lib.hid (hv F (d + 1) m lb a1 c1 a2 c2 _ hF (by omega) (by omega) hm0 hm1 ((hb0.block _ (Array.getElem?_eq_some_iff.1 hl).1).trans hl) (hr1.below hb0) (hr2.below hb0))
  have Hb0 := Lib.hid hb0
  clear hl hd ht hr1 hr2 hb0 hv
  unfold vCells at Hc ⊢
  go_enter Tryz.func124, Tryz.ntmps124
  go_wp2_with fail
  refine Hc.out.mono ?_
  rintro e w1 ⟨rfl, hg, hl⟩
  have HG := Lib.hid (And.intro (grownBy_trans (grownBy_below Hb0.out) hg) hl)
  clear hg hl
  go_wp2_with fail
  go_ret
  exact ⟨rfl, HG.out.1, HG.out.2⟩
/-- How may stands behind its first statement: its boxes. -/
structure MayW (k n : Int) (s : ByteArray) (a1 : Option Addr) (l1 c1 : Nat) (a2 : Option Addr) (l2 c2 : Nat) (d m : Int) (lb : Nat) (w W : World) : Prop where
  size : w.heap.size + 3 ≤ W.heap.size
  lbl : lb < w.heap.size
  left : W.heap[lb]? = some (.cells #[.int .i64 m] 3 (0, 0))
  a : W.heap[w.heap.size]? = some (.cells #[.int .i64 k, .int .i64 n, .string s, .slice a1 l1 c1, .slice a2 l2 c2] 37 (0, 0))
  b : W.heap[w.heap.size + 1]? = some (.cells #[.int .i64 d] 3 (0, 0))
  c : W.heap[w.heap.size + 1 + 1]? = some (.cells #[.pointer (some ⟨lb, 0, none⟩)] 143 (0, 0))
  grown : w.grownBy W (some lb)
theorem mayW {k n : Int} {s : ByteArray} {a1 : Option Addr} {l1 c1 : Nat} {a2 : Option Addr} {l2 c2 : Nat} {d m m' : Int} {lb : Nat} {w : World} (hb : w.heap[lb]? = some (.cells #[.int .i64 m] 3 (0, 0))) :
    MayW k n s a1 l1 c1 a2 l2 c2 d m' lb w ((((w.setCell ⟨lb, 0, none⟩ (.int .i64 m')).alloc (.cells #[.int .i64 k, .int .i64 n, .string s, .slice a1 l1 c1, .slice a2 l2 c2] 37)).alloc (.cells #[.int .i64 d] 3)).alloc (.cells #[.pointer (some ⟨lb, 0, none⟩)] 143)) := by
  have hlb := (Array.getElem?_eq_some_iff.1 hb).1
  have hsz : (w.setCell ⟨lb, 0, none⟩ (.int .i64 m')).heap.size = w.heap.size := by simp
  have h0 := set_same hb 0 (.int .i64 m')
  generalize hw1 : w.setCell ⟨lb, 0, none⟩ (.int .i64 m') = w1 at hsz h0 ⊢
  have hg : w.grownBy w1 (some lb) := by rw [← hw1]; exact grownBy_set (grownBy_refl _ _) 0 _
  have hs : w.heap.size = w1.heap.size := hsz.symm
  refine ⟨by simp [hs], hlb, ?_, ?_, ?_, ?_, ?_⟩
  · rw [Below.heap_alloc _ _ _ (by simp; omega), Below.heap_alloc _ _ _ (by simp; omega), Below.heap_alloc _ _ _ (by omega)]; exact h0
  · rw [hs, Below.heap_alloc _ _ _ (by simp; omega), Below.heap_alloc _ _ _ (by simp)]; exact heap_alloc_new w1 _
  · rw [hs, Below.heap_alloc _ _ _ (by simp)]
    have := heap_alloc_new (w1.alloc (.cells #[.int .i64 k, .int .i64 n, .string s, .slice a1 l1 c1, .slice a2 l2 c2] 37)) (.cells #[.int .i64 d] 3)
    simpa using this
  · rw [hs]
    have := heap_alloc_new ((w1.alloc (.cells #[.int .i64 k, .int .i64 n, .string s, .slice a1 l1 c1, .slice a2 l2 c2] 37)).alloc (.cells #[.int .i64 d] 3)) (.cells #[.pointer (some ⟨lb, 0, none⟩)] 143)
    simpa using this
  · exact grownBy_alloc (grownBy_alloc (grownBy_alloc hg _) _) _

theorem MayW.below {k n : Int} {s : ByteArray} {a1 : Option Addr} {l1 c1 : Nat} {a2 : Option Addr} {l2 c2 : Nat} {d m : Int} {lb : Nat} {w W W' : World} (h : MayW k n s a1 l1 c1 a2 l2 c2 d m lb w W) (hb : Below W.heap.size W W') : MayW k n s a1 l1 c1 a2 l2 c2 d m lb w W' := by
  have hs := h.size
  have hl := h.lbl
  exact ⟨Nat.le_trans hs hb.size, hl, (hb.block _ (by omega)).trans h.left, (hb.block _ (by omega)).trans h.a, (hb.block _ (by omega)).trans h.b, (hb.block _ (by omega)).trans h.c, grownBy_trans h.grown (grownBy_below hb)⟩

theorem empty_len {α : Type} (l : List α) : l.isEmpty = (((0 : Nat) : Int) == (l.length : Int)) := by cases l <;> simp; omega
theorem empty_str (s : ByteArray) : s.toList.isEmpty = ((⟨#[]⟩ : ByteArray).toList == s.toList) := by
  rw [Lib.toList_data, Lib.toList_data]
  cases s.data.toList <;> rfl
theorem str_self (s : ByteArray) : (s.toList == s.toList) = true := beq_self_eq_true _
theorem nodeOk0 (n : Int) (s : ByteArray) (l : List Vl) (ks : List ByteArray) : nodeOk 0 n s l ks = (true && ((0 : Int) == n) && ((⟨#[]⟩ : ByteArray).toList == s.toList) && (((0 : Nat) : Int) == (l.length : Int)) && (((0 : Nat) : Int) == (ks.length : Int))) := by
  rw [← empty_len, ← empty_len, ← empty_str]
  unfold nodeOk
  rw [if_pos rfl, Bool.true_and, Bool.beq_comm (a := n)]
theorem nodeOk1 (n : Int) (s : ByteArray) (l : List Vl) (ks : List ByteArray) : nodeOk 1 n s l ks = ((n == 0 || n == 1) && (n == n) && ((⟨#[]⟩ : ByteArray).toList == s.toList) && (((0 : Nat) : Int) == (l.length : Int)) && (((0 : Nat) : Int) == (ks.length : Int))) := by
  rw [← empty_len, ← empty_len, ← empty_str]
  unfold nodeOk
  rw [if_neg (by decide), if_pos rfl, beq_self_eq_true, Bool.and_true]
theorem nodeOk2 (n : Int) (s : ByteArray) (l : List Vl) (ks : List ByteArray) : nodeOk 2 n s l ks = (true && (n == n) && ((⟨#[]⟩ : ByteArray).toList == s.toList) && (((0 : Nat) : Int) == (l.length : Int)) && (((0 : Nat) : Int) == (ks.length : Int))) := by
  rw [← empty_len, ← empty_len, ← empty_str]
  unfold nodeOk
  rw [if_neg (by decide), if_neg (by decide), if_pos rfl, beq_self_eq_true, Bool.true_and, Bool.true_and]
theorem nodeOk3 (n : Int) (s : ByteArray) (l : List Vl) (ks : List ByteArray) : nodeOk 3 n s l ks = (decide (s.size ≤ 65536) && ((0 : Int) == n) && (s.toList == s.toList) && (((0 : Nat) : Int) == (l.length : Int)) && (((0 : Nat) : Int) == (ks.length : Int))) := by
  rw [← empty_len, ← empty_len, str_self]
  unfold nodeOk
  rw [if_neg (by decide), if_neg (by decide), if_neg (by decide), if_pos rfl, Bool.and_true, Bool.beq_comm (a := n), Bool.and_comm ((0 : Int) == n)]
theorem nodeOk4 (n : Int) (s : ByteArray) (l : List Vl) (ks : List ByteArray) : nodeOk 4 n s l ks = (decide (l.length ≤ 1000) && ((0 : Int) == n) && ((⟨#[]⟩ : ByteArray).toList == s.toList) && ((l.length : Int) == (l.length : Int)) && (((0 : Nat) : Int) == (ks.length : Int))) := by
  rw [← empty_len, ← empty_str, beq_self_eq_true]
  unfold nodeOk
  rw [if_neg (by decide), if_neg (by decide), if_neg (by decide), if_neg (by decide), if_pos rfl, Bool.and_true, Bool.beq_comm (a := n)]
  cases ((0 : Int) == n) <;> cases s.toList.isEmpty <;> cases decide (l.length ≤ 1000) <;> rfl
theorem nodeOk5 (n : Int) (s : ByteArray) (l : List Vl) (ks : List ByteArray) : nodeOk 5 n s l ks = (((l.length == ks.length) && risesL ks) && ((0 : Int) == n) && ((⟨#[]⟩ : ByteArray).toList == s.toList) && ((l.length : Int) == (l.length : Int)) && ((ks.length : Int) == (ks.length : Int))) := by
  rw [← empty_str, beq_self_eq_true, beq_self_eq_true]
  unfold nodeOk
  rw [if_neg (by decide), if_neg (by decide), if_neg (by decide), if_neg (by decide), if_neg (by decide), if_pos rfl, Bool.and_true, Bool.and_true, Bool.beq_comm (a := n)]
  cases ((0 : Int) == n) <;> cases s.toList.isEmpty <;> cases (l.length == ks.length) <;> cases risesL ks <;> rfl
theorem nodeOkx {k : Int} (n : Int) (s : ByteArray) (l : List Vl) (ks : List ByteArray) (h : k ≠ 0 ∧ k ≠ 1 ∧ k ≠ 2 ∧ k ≠ 3 ∧ k ≠ 4 ∧ k ≠ 5) : nodeOk k n s l ks = false := by
  unfold nodeOk
  rw [if_neg h.1, if_neg h.2.1, if_neg h.2.2.1, if_neg h.2.2.2.1, if_neg h.2.2.2.2.1, if_neg h.2.2.2.2.2]

set_option maxRecDepth 100000 in
set_option maxHeartbeats 16000000 in
theorem may_node (k n : Int) (s : ByteArray) (l : List Vl) (ks : List ByteArray) (F : Nat → Prop) (d m : Int) (lb : Nat) (a1 : Option Addr) (c1 : Nat) (a2 : Option Addr) (c2 : Nat) (w : World)
    (hd0 : 1 ≤ d) (hd1 : d ≤ 61) (hm0 : 0 ≤ m) (hm1 : m ≤ 20000) (hb : w.heap[lb]? = some (.cells #[.int .i64 m] 3 (0, 0))) (hr1 : RowAt F w a1 (valsD l)) (hr2 : RowAt F w a2 (strsD ks)) (hF : ∀ b, F b → b ≠ lb)
    (hll : l.length ≤ 140737488355328) (hkl : ks.length ≤ 140737488355328) (hks : ∀ s ∈ ks, s.size ≤ 9223372036854775807) (hsl : s.size ≤ 9223372036854775807) (hit : ∀ x ∈ l, MayC x) :
    Calls Tryz.prog 96 #[vCells k n s a1 l.length c1 a2 ks.length c2, .int .i64 d, .pointer (some ⟨lb, 0, none⟩)] w (PMay (mayV (.mk k n s l ks) d m) lb w) := by
  obtain ⟨hlb, hc, hf⟩ := block_facts hb
  have q0 := hc 0
  have z0 := hf 0
  simp at q0
  have Hb := Lib.hid hb
  have Hks := Lib.hid hks
  have HF := Lib.hid hF
  have Hit := Lib.hid hit
  clear hc hf hb hks hF hit
  have g1 : lb < w.heap.size + 1 := by omega
  have g2 : lb < w.heap.size + 1 + 1 := by omega
  have g3 : lb < w.heap.size + 1 + 1 + 1 := by omega
  unfold vCells
  go_enter Tryz.func96, Tryz.ntmps96
  go_upto_region 2 with fail
  have HW := Lib.hid (mayW (k := k) (n := n) (s := s) (a1 := a1) (l1 := l.length) (c1 := c1) (a2 := a2) (l2 := ks.length) (c2 := c2) (d := d) (m' := m - 1) Hb.out)
  generalize hW : World.alloc _ _ = W at HW ⊢
  clear hW q0 z0 g1 g2 g3 hlb
  have Hr1 := Lib.hid hr1
  have Hr2 := Lib.hid hr2
  clear hr1 hr2
  by_cases hdeep : d > 60
  · have Hr : Hid (mayV (.mk k n s l ks) d m = (false, m - 1)) := Lib.hid (by rw [mayV, if_pos (.inl (by omega))])
    obtain ⟨b0, b1⟩ := one_facts HW.out.b
    go_wp2
    go_ret
    rw [Hr.out]
    exact ⟨rfl, HW.out.grown, HW.out.left⟩
  · by_cases hneg : m - 1 < 0
    · have Hr : Hid (mayV (.mk k n s l ks) d m = (false, m - 1)) := Lib.hid (by rw [mayV, if_pos (.inr hneg)])
      obtain ⟨b0, b1⟩ := one_facts HW.out.b
      obtain ⟨p0, p1⟩ := one_facts HW.out.c
      obtain ⟨r0, r1⟩ := one_facts HW.out.left
      go_wp2
      go_ret
      rw [Hr.out]
      exact ⟨rfl, HW.out.grown, HW.out.left⟩
    · have Hr : Hid (mayV (.mk k n s l ks) d m = if nodeOk k n s l ks = true then mayVs l (d + 1) (m - 1) else (false, m - 1)) := Lib.hid (by rw [mayV, if_neg (by omega)])
      obtain ⟨b0, b1⟩ := one_facts HW.out.b
      obtain ⟨p0, p1⟩ := one_facts HW.out.c
      obtain ⟨r0, r1⟩ := one_facts HW.out.left
      obtain ⟨t0, t1, t2, t3, t4, t5, t6, t7, t8, t9, t10⟩ := five_facts HW.out.a
      have HU := Lib.hid ((Below.refl _ W).alloc (Nat.le_refl _) (.cells #[.int .i64 k, .int .i64 0, .string ⟨#[]⟩, .slice none 0 0, .slice none 0 0] 37))
      go_upto_block 0 with fail
      clear b0 b1 p0 p1 r0 r1
      go_cut [8] from 27 (fun rv wc => ∃ (rt : Bool) (bn : Int) (bs : ByteArray) (a3 : Option Addr) (l3 c3 : Nat) (a4 : Option Addr) (l4 c4 : Nat), rv = .bool rt ∧ Hid (wc.heap[W.heap.size]? = some (.cells #[.int .i64 k, .int .i64 bn, .string bs, .slice a3 l3 c3, .slice a4 l4 c4] 37 (0, 0)) ∧ Below W.heap.size W wc ∧
        nodeOk k n s l ks = (rt && (bn == n) && (bs.toList == s.toList) && ((l3 : Int) == (l.length : Int)) && ((l4 : Int) == (ks.length : Int)))))
      case first =>
        have HA : Hid (True ∧ ∀ W', Below W.heap.size W W' → W'.heap[w.heap.size]? = some (.cells #[.int .i64 k, .int .i64 n, .string s, .slice a1 l.length c1, .slice a2 ks.length c2] 37 (0, 0))) := Lib.hid ⟨trivial, fun W' hb => (hb.block _ (by have := HW.out.size; omega)).trans HW.out.a⟩
        have HS2 : Hid (∀ W', Below W.heap.size W W' → StrsAt W' a2 ks) := Lib.hid (fun W' hb => ((Hr2.out.mono (w' := W') (G := fun _ => True) fun b hF hl => ⟨trivial, by have := HW.out.grown.size; have := hb.size; omega, (hb.block b (by have := HW.out.grown.size; omega)).trans (HW.out.grown.block b hl (fun e => by cases e; exact HF.out _ hF rfl))⟩).strs))
        by_cases h0 : k = 0
        · subst h0
          go_wp2_with fail
          go_meet
          case rel => exact ⟨true, 0, ⟨#[]⟩, none, 0, 0, none, 0, 0, rfl, Lib.hid ⟨heap_alloc_new W _, HU.out, nodeOk0 n s l ks⟩⟩
        ·
          by_cases h1 : k = 1
          · subst h1
            cases hn : (n == 0)
            · go_wp2_with fail
              refine wp_region_turns (.s 0 (.s 1 (.s 2 (.s 3 (.s 4 (.s 5 (.s 6 (.s 7 (.s 8 (.s 9 (.s 10 (.h 11 (.s 12 .nil))))))))))))) 99 (fun W' => W'.heap[w.heap.size]? = some (.cells #[.int .i64 1, .int .i64 n, .string s, .slice a1 l.length c1, .slice a2 ks.length c2] 37 (0, 0))) (by kernel_rfl) (by kernel_rfl) (fun c a d v w h => by cases d <;> exact h) (HA.out.2 _ HU.out.drew) ?_
              refine turn_steady (.pointer (some ⟨w.heap.size, 1, none⟩)) rfl rfl (fun W' hS => ?_) ?_
              · obtain ⟨s0, s1, s2, s3, s4, s5, s6, s7, s8, s9, s10⟩ := five_facts hS
                clear hS
                go_simp
              simp only [List.getElem_toArray, List.getElem_cons_zero, Act.put, List.setIfInBounds_toArray, List.set_cons_zero, List.set_cons_succ]
              refine turn_steady (.int .i64 n) rfl rfl (fun W' hS => ?_) ?_
              · obtain ⟨s0, s1, s2, s3, s4, s5, s6, s7, s8, s9, s10⟩ := five_facts hS
                clear hS
                go_simp
              simp only [List.getElem_toArray, List.getElem_cons_succ, List.getElem_cons_zero, Act.put, List.setIfInBounds_toArray, List.set_cons_zero, List.set_cons_succ]
              refine turn_steady (.pointer (some ⟨w.heap.size, 1, none⟩)) rfl rfl (fun W' hS => ?_) ?_
              · obtain ⟨s0, s1, s2, s3, s4, s5, s6, s7, s8, s9, s10⟩ := five_facts hS
                clear hS
                go_simp
              simp only [List.getElem_toArray, List.getElem_cons_succ, List.getElem_cons_zero, Act.put, List.setIfInBounds_toArray, List.set_cons_zero, List.set_cons_succ]
              refine turn_steady (.int .i64 n) rfl rfl (fun W' hS => ?_) ?_
              · obtain ⟨s0, s1, s2, s3, s4, s5, s6, s7, s8, s9, s10⟩ := five_facts hS
                clear hS
                go_simp
              simp only [List.getElem_toArray, List.getElem_cons_succ, List.getElem_cons_zero, Act.put, List.setIfInBounds_toArray, List.set_cons_zero, List.set_cons_succ]
              refine turn_steady (.bool false) rfl rfl (fun W' hS => ?_) ?_
              · obtain ⟨s0, s1, s2, s3, s4, s5, s6, s7, s8, s9, s10⟩ := five_facts hS
                clear hS
                go_simp
              simp only [List.getElem_toArray, List.getElem_cons_succ, List.getElem_cons_zero, Act.put, List.setIfInBounds_toArray, List.set_cons_zero, List.set_cons_succ]
              refine turn_steady (.bool false) rfl rfl (fun W' hS => ?_) ?_
              · obtain ⟨s0, s1, s2, s3, s4, s5, s6, s7, s8, s9, s10⟩ := five_facts hS
                clear hS
                go_simp
              simp only [List.getElem_toArray, List.getElem_cons_succ, List.getElem_cons_zero, Act.put, List.setIfInBounds_toArray, List.set_cons_zero, List.set_cons_succ]
              refine turn_steady (.pointer (some ⟨w.heap.size, 1, none⟩)) rfl rfl (fun W' hS => ?_) ?_
              · obtain ⟨s0, s1, s2, s3, s4, s5, s6, s7, s8, s9, s10⟩ := five_facts hS
                clear hS
                go_simp
              simp only [List.getElem_toArray, List.getElem_cons_succ, List.getElem_cons_zero, Act.put, List.setIfInBounds_toArray, List.set_cons_zero, List.set_cons_succ]
              refine turn_steady (.int .i64 n) rfl rfl (fun W' hS => ?_) ?_
              · obtain ⟨s0, s1, s2, s3, s4, s5, s6, s7, s8, s9, s10⟩ := five_facts hS
                clear hS
                go_simp
              simp only [List.getElem_toArray, List.getElem_cons_succ, List.getElem_cons_zero, Act.put, List.setIfInBounds_toArray, List.set_cons_zero, List.set_cons_succ]
              refine turn_steady (.bool (n == 1)) rfl rfl (fun W' hS => ?_) ?_
              · obtain ⟨s0, s1, s2, s3, s4, s5, s6, s7, s8, s9, s10⟩ := five_facts hS
                clear hS
                go_simp
              simp only [List.getElem_toArray, List.getElem_cons_succ, List.getElem_cons_zero, Act.put, List.setIfInBounds_toArray, List.set_cons_zero, List.set_cons_succ]
              refine turn_steady (.bool (n == 1)) rfl rfl (fun W' hS => ?_) ?_
              · obtain ⟨s0, s1, s2, s3, s4, s5, s6, s7, s8, s9, s10⟩ := five_facts hS
                clear hS
                go_simp
              simp only [List.getElem_toArray, List.getElem_cons_succ, List.getElem_cons_zero, Act.put, List.setIfInBounds_toArray, List.set_cons_zero, List.set_cons_succ]
              refine turn_steady (.pointer (some ⟨W.heap.size, 1, none⟩)) rfl rfl (fun W' hS => ?_) ?_
              · obtain ⟨s0, s1, s2, s3, s4, s5, s6, s7, s8, s9, s10⟩ := five_facts hS
                clear hS
                go_simp
              simp only [List.getElem_toArray, List.getElem_cons_succ, List.getElem_cons_zero, Act.put, List.setIfInBounds_toArray, List.set_cons_zero, List.set_cons_succ]
              refine turn_heavy rfl (fun Kx hKx => ?_)
              go_wp2_with fail
              refine hKx _ _ (fun _ => HA.out.2 _ (by first | exact HU.out.drew | exact ((Below.refl _ W).alloc (Nat.le_refl _) _).drew)) ?_
              skip
              refine turn_steady (.bool (n == 1)) rfl rfl (fun W' hS => ?_) ?_
              · obtain ⟨s0, s1, s2, s3, s4, s5, s6, s7, s8, s9, s10⟩ := five_facts hS
                clear hS
                go_simp
              simp only [List.getElem_toArray, List.getElem_cons_succ, List.getElem_cons_zero, Act.put, List.setIfInBounds_toArray, List.set_cons_zero, List.set_cons_succ]
              refine turn_end ?_
              go_wp2_with fail
              go_meet
              case rel => exact ⟨(n == 1), n, ⟨#[]⟩, none, 0, 0, none, 0, 0, rfl, Lib.hid ⟨heap_alloc_new W _, ((Below.refl _ W).alloc (Nat.le_refl _) _).drew, (by have h := nodeOk1 n s l ks; rw [hn, Bool.false_or] at h; exact h)⟩⟩
            · go_wp2_with fail
              refine wp_region_turns (.s 0 (.s 1 (.s 2 (.s 3 (.s 4 (.s 5 (.s 6 (.s 7 (.s 8 (.s 9 (.s 10 (.h 11 (.s 12 .nil))))))))))))) 99 (fun W' => W'.heap[w.heap.size]? = some (.cells #[.int .i64 1, .int .i64 n, .string s, .slice a1 l.length c1, .slice a2 ks.length c2] 37 (0, 0))) (by kernel_rfl) (by kernel_rfl) (fun c a d v w h => by cases d <;> exact h) (HA.out.2 _ HU.out.drew) ?_
              refine turn_steady (.pointer (some ⟨w.heap.size, 1, none⟩)) rfl rfl (fun W' hS => ?_) ?_
              · obtain ⟨s0, s1, s2, s3, s4, s5, s6, s7, s8, s9, s10⟩ := five_facts hS
                clear hS
                go_simp
              simp only [List.getElem_toArray, List.getElem_cons_zero, Act.put, List.setIfInBounds_toArray, List.set_cons_zero, List.set_cons_succ]
              refine turn_steady (.int .i64 n) rfl rfl (fun W' hS => ?_) ?_
              · obtain ⟨s0, s1, s2, s3, s4, s5, s6, s7, s8, s9, s10⟩ := five_facts hS
                clear hS
                go_simp
              simp only [List.getElem_toArray, List.getElem_cons_succ, List.getElem_cons_zero, Act.put, List.setIfInBounds_toArray, List.set_cons_zero, List.set_cons_succ]
              refine turn_steady (.pointer (some ⟨w.heap.size, 1, none⟩)) rfl rfl (fun W' hS => ?_) ?_
              · obtain ⟨s0, s1, s2, s3, s4, s5, s6, s7, s8, s9, s10⟩ := five_facts hS
                clear hS
                go_simp
              simp only [List.getElem_toArray, List.getElem_cons_succ, List.getElem_cons_zero, Act.put, List.setIfInBounds_toArray, List.set_cons_zero, List.set_cons_succ]
              refine turn_steady (.int .i64 n) rfl rfl (fun W' hS => ?_) ?_
              · obtain ⟨s0, s1, s2, s3, s4, s5, s6, s7, s8, s9, s10⟩ := five_facts hS
                clear hS
                go_simp
              simp only [List.getElem_toArray, List.getElem_cons_succ, List.getElem_cons_zero, Act.put, List.setIfInBounds_toArray, List.set_cons_zero, List.set_cons_succ]
              refine turn_steady (.bool true) rfl rfl (fun W' hS => ?_) ?_
              · obtain ⟨s0, s1, s2, s3, s4, s5, s6, s7, s8, s9, s10⟩ := five_facts hS
                clear hS
                go_simp
              simp only [List.getElem_toArray, List.getElem_cons_succ, List.getElem_cons_zero, Act.put, List.setIfInBounds_toArray, List.set_cons_zero, List.set_cons_succ]
              refine turn_steady (.bool true) rfl rfl (fun W' hS => ?_) ?_
              · obtain ⟨s0, s1, s2, s3, s4, s5, s6, s7, s8, s9, s10⟩ := five_facts hS
                clear hS
                go_simp
              simp only [List.getElem_toArray, List.getElem_cons_succ, List.getElem_cons_zero, Act.put, List.setIfInBounds_toArray, List.set_cons_zero, List.set_cons_succ]
              refine turn_skip rfl rfl ?_
              simp only [List.getElem_toArray, List.getElem_cons_succ, List.getElem_cons_zero, Act.put, List.setIfInBounds_toArray, List.set_cons_zero, List.set_cons_succ]
              refine turn_skip rfl rfl ?_
              simp only [List.getElem_toArray, List.getElem_cons_succ, List.getElem_cons_zero, Act.put, List.setIfInBounds_toArray, List.set_cons_zero, List.set_cons_succ]
              refine turn_skip rfl rfl ?_
              simp only [List.getElem_toArray, List.getElem_cons_succ, List.getElem_cons_zero, Act.put, List.setIfInBounds_toArray, List.set_cons_zero, List.set_cons_succ]
              refine turn_steady (.bool true) rfl rfl (fun W' hS => ?_) ?_
              · obtain ⟨s0, s1, s2, s3, s4, s5, s6, s7, s8, s9, s10⟩ := five_facts hS
                clear hS
                go_simp
              simp only [List.getElem_toArray, List.getElem_cons_succ, List.getElem_cons_zero, Act.put, List.setIfInBounds_toArray, List.set_cons_zero, List.set_cons_succ]
              refine turn_steady (.pointer (some ⟨W.heap.size, 1, none⟩)) rfl rfl (fun W' hS => ?_) ?_
              · obtain ⟨s0, s1, s2, s3, s4, s5, s6, s7, s8, s9, s10⟩ := five_facts hS
                clear hS
                go_simp
              simp only [List.getElem_toArray, List.getElem_cons_succ, List.getElem_cons_zero, Act.put, List.setIfInBounds_toArray, List.set_cons_zero, List.set_cons_succ]
              refine turn_heavy rfl (fun Kx hKx => ?_)
              go_wp2_with fail
              refine hKx _ _ (fun _ => HA.out.2 _ (by first | exact HU.out.drew | exact ((Below.refl _ W).alloc (Nat.le_refl _) _).drew)) ?_
              skip
              refine turn_steady (.bool true) rfl rfl (fun W' hS => ?_) ?_
              · obtain ⟨s0, s1, s2, s3, s4, s5, s6, s7, s8, s9, s10⟩ := five_facts hS
                clear hS
                go_simp
              simp only [List.getElem_toArray, List.getElem_cons_succ, List.getElem_cons_zero, Act.put, List.setIfInBounds_toArray, List.set_cons_zero, List.set_cons_succ]
              refine turn_end ?_
              go_wp2_with fail
              go_meet
              case rel => exact ⟨true, n, ⟨#[]⟩, none, 0, 0, none, 0, 0, rfl, Lib.hid ⟨heap_alloc_new W _, ((Below.refl _ W).alloc (Nat.le_refl _) _).drew, (by have h := nodeOk1 n s l ks; rw [hn, Bool.true_or] at h; exact h)⟩⟩
          ·
            by_cases h2 : k = 2
            · subst h2
              go_wp2_with fail
              go_meet
              case rel => exact ⟨true, n, ⟨#[]⟩, none, 0, 0, none, 0, 0, rfl, Lib.hid ⟨heap_alloc_new W _, (Below.refl _ W).alloc (Nat.le_refl _) _, nodeOk2 n s l ks⟩⟩
            ·
              by_cases h3 : k = 3
              · subst h3
                go_wp2_with fail
                refine wp_region_turns (.s 0 (.s 1 (.s 2 (.s 3 (.s 4 (.s 5 (.s 6 (.h 7 (.s 8 .nil))))))))) 99 (fun W' => W'.heap[w.heap.size]? = some (.cells #[.int .i64 3, .int .i64 n, .string s, .slice a1 l.length c1, .slice a2 ks.length c2] 37 (0, 0))) (by kernel_rfl) (by kernel_rfl) (fun c a d v w h => by cases d <;> exact h) (HA.out.2 _ HU.out.drew) ?_
                refine turn_steady (.pointer (some ⟨w.heap.size, 2, none⟩)) rfl rfl (fun W' hS => ?_) ?_
                · obtain ⟨s0, s1, s2, s3, s4, s5, s6, s7, s8, s9, s10⟩ := five_facts hS
                  clear hS
                  go_simp
                simp only [List.getElem_toArray, List.getElem_cons_zero, Act.put, List.setIfInBounds_toArray, List.set_cons_zero, List.set_cons_succ]
                refine turn_steady (.string s) rfl rfl (fun W' hS => ?_) ?_
                · obtain ⟨s0, s1, s2, s3, s4, s5, s6, s7, s8, s9, s10⟩ := five_facts hS
                  clear hS
                  go_simp
                simp only [List.getElem_toArray, List.getElem_cons_succ, List.getElem_cons_zero, Act.put, List.setIfInBounds_toArray, List.set_cons_zero, List.set_cons_succ]
                refine turn_steady (.pointer (some ⟨w.heap.size, 2, none⟩)) rfl rfl (fun W' hS => ?_) ?_
                · obtain ⟨s0, s1, s2, s3, s4, s5, s6, s7, s8, s9, s10⟩ := five_facts hS
                  clear hS
                  go_simp
                simp only [List.getElem_toArray, List.getElem_cons_succ, List.getElem_cons_zero, Act.put, List.setIfInBounds_toArray, List.set_cons_zero, List.set_cons_succ]
                refine turn_steady (.string s) rfl rfl (fun W' hS => ?_) ?_
                · obtain ⟨s0, s1, s2, s3, s4, s5, s6, s7, s8, s9, s10⟩ := five_facts hS
                  clear hS
                  go_simp
                simp only [List.getElem_toArray, List.getElem_cons_succ, List.getElem_cons_zero, Act.put, List.setIfInBounds_toArray, List.set_cons_zero, List.set_cons_succ]
                refine turn_steady (.int .i64 (s.size : Int)) rfl rfl (fun W' hS => ?_) ?_
                · obtain ⟨s0, s1, s2, s3, s4, s5, s6, s7, s8, s9, s10⟩ := five_facts hS
                  clear hS
                  go_simp
                simp only [List.getElem_toArray, List.getElem_cons_succ, List.getElem_cons_zero, Act.put, List.setIfInBounds_toArray, List.set_cons_zero, List.set_cons_succ]
                refine turn_steady (.bool (decide ((s.size : Int) ≤ 65536))) rfl rfl (fun W' hS => ?_) ?_
                · obtain ⟨s0, s1, s2, s3, s4, s5, s6, s7, s8, s9, s10⟩ := five_facts hS
                  clear hS
                  go_simp
                simp only [List.getElem_toArray, List.getElem_cons_succ, List.getElem_cons_zero, Act.put, List.setIfInBounds_toArray, List.set_cons_zero, List.set_cons_succ]
                refine turn_steady (.pointer (some ⟨W.heap.size, 2, none⟩)) rfl rfl (fun W' hS => ?_) ?_
                · obtain ⟨s0, s1, s2, s3, s4, s5, s6, s7, s8, s9, s10⟩ := five_facts hS
                  clear hS
                  go_simp
                simp only [List.getElem_toArray, List.getElem_cons_succ, List.getElem_cons_zero, Act.put, List.setIfInBounds_toArray, List.set_cons_zero, List.set_cons_succ]
                refine turn_heavy rfl (fun Kx hKx => ?_)
                go_wp2_with fail
                refine hKx _ _ (fun _ => HA.out.2 _ (by first | exact HU.out.drew | exact ((Below.refl _ W).alloc (Nat.le_refl _) _).drew)) ?_
                skip
                refine turn_steady (.bool (decide ((s.size : Int) ≤ 65536))) rfl rfl (fun W' hS => ?_) ?_
                · obtain ⟨s0, s1, s2, s3, s4, s5, s6, s7, s8, s9, s10⟩ := five_facts hS
                  clear hS
                  go_simp
                simp only [List.getElem_toArray, List.getElem_cons_succ, List.getElem_cons_zero, Act.put, List.setIfInBounds_toArray, List.set_cons_zero, List.set_cons_succ]
                refine turn_end ?_
                go_wp2_with fail
                go_meet
                case rel => exact ⟨(decide ((s.size : Int) ≤ 65536)), 0, s, none, 0, 0, none, 0, 0, rfl, Lib.hid ⟨heap_alloc_new W _, ((Below.refl _ W).alloc (Nat.le_refl _) _).drew, (by have h := nodeOk3 n s l ks; rw [show decide (s.size ≤ 65536) = decide ((s.size : Int) ≤ 65536) from decide_eq_decide.2 (by omega)] at h; exact h)⟩⟩
              ·
                by_cases h4 : k = 4
                · subst h4
                  go_wp2_with fail
                  refine wp_region_turns (.s 0 (.s 1 (.s 2 (.s 3 (.s 4 (.s 5 (.s 6 (.h 7 (.s 8 .nil))))))))) 99 (fun W' => W'.heap[w.heap.size]? = some (.cells #[.int .i64 4, .int .i64 n, .string s, .slice a1 l.length c1, .slice a2 ks.length c2] 37 (0, 0))) (by kernel_rfl) (by kernel_rfl) (fun c a d v w h => by cases d <;> exact h) (HA.out.2 _ HU.out.drew) ?_
                  refine turn_steady (.pointer (some ⟨w.heap.size, 3, none⟩)) rfl rfl (fun W' hS => ?_) ?_
                  · obtain ⟨s0, s1, s2, s3, s4, s5, s6, s7, s8, s9, s10⟩ := five_facts hS
                    clear hS
                    go_simp
                  simp only [List.getElem_toArray, List.getElem_cons_zero, Act.put, List.setIfInBounds_toArray, List.set_cons_zero, List.set_cons_succ]
                  refine turn_steady (.slice a1 l.length c1) rfl rfl (fun W' hS => ?_) ?_
                  · obtain ⟨s0, s1, s2, s3, s4, s5, s6, s7, s8, s9, s10⟩ := five_facts hS
                    clear hS
                    go_simp
                  simp only [List.getElem_toArray, List.getElem_cons_succ, List.getElem_cons_zero, Act.put, List.setIfInBounds_toArray, List.set_cons_zero, List.set_cons_succ]
                  refine turn_steady (.pointer (some ⟨w.heap.size, 3, none⟩)) rfl rfl (fun W' hS => ?_) ?_
                  · obtain ⟨s0, s1, s2, s3, s4, s5, s6, s7, s8, s9, s10⟩ := five_facts hS
                    clear hS
                    go_simp
                  simp only [List.getElem_toArray, List.getElem_cons_succ, List.getElem_cons_zero, Act.put, List.setIfInBounds_toArray, List.set_cons_zero, List.set_cons_succ]
                  refine turn_steady (.slice a1 l.length c1) rfl rfl (fun W' hS => ?_) ?_
                  · obtain ⟨s0, s1, s2, s3, s4, s5, s6, s7, s8, s9, s10⟩ := five_facts hS
                    clear hS
                    go_simp
                  simp only [List.getElem_toArray, List.getElem_cons_succ, List.getElem_cons_zero, Act.put, List.setIfInBounds_toArray, List.set_cons_zero, List.set_cons_succ]
                  refine turn_steady (.int .i64 (l.length : Int)) rfl rfl (fun W' hS => ?_) ?_
                  · obtain ⟨s0, s1, s2, s3, s4, s5, s6, s7, s8, s9, s10⟩ := five_facts hS
                    clear hS
                    go_simp
                  simp only [List.getElem_toArray, List.getElem_cons_succ, List.getElem_cons_zero, Act.put, List.setIfInBounds_toArray, List.set_cons_zero, List.set_cons_succ]
                  refine turn_steady (.bool (decide ((l.length : Int) ≤ 1000))) rfl rfl (fun W' hS => ?_) ?_
                  · obtain ⟨s0, s1, s2, s3, s4, s5, s6, s7, s8, s9, s10⟩ := five_facts hS
                    clear hS
                    go_simp
                  simp only [List.getElem_toArray, List.getElem_cons_succ, List.getElem_cons_zero, Act.put, List.setIfInBounds_toArray, List.set_cons_zero, List.set_cons_succ]
                  refine turn_steady (.pointer (some ⟨W.heap.size, 3, none⟩)) rfl rfl (fun W' hS => ?_) ?_
                  · obtain ⟨s0, s1, s2, s3, s4, s5, s6, s7, s8, s9, s10⟩ := five_facts hS
                    clear hS
                    go_simp
                  simp only [List.getElem_toArray, List.getElem_cons_succ, List.getElem_cons_zero, Act.put, List.setIfInBounds_toArray, List.set_cons_zero, List.set_cons_succ]
                  refine turn_heavy rfl (fun Kx hKx => ?_)
                  go_wp2_with fail
                  refine hKx _ _ (fun _ => HA.out.2 _ (by first | exact HU.out.drew | exact ((Below.refl _ W).alloc (Nat.le_refl _) _).drew)) ?_
                  skip
                  refine turn_steady (.bool (decide ((l.length : Int) ≤ 1000))) rfl rfl (fun W' hS => ?_) ?_
                  · obtain ⟨s0, s1, s2, s3, s4, s5, s6, s7, s8, s9, s10⟩ := five_facts hS
                    clear hS
                    go_simp
                  simp only [List.getElem_toArray, List.getElem_cons_succ, List.getElem_cons_zero, Act.put, List.setIfInBounds_toArray, List.set_cons_zero, List.set_cons_succ]
                  refine turn_end ?_
                  go_wp2_with fail
                  go_meet
                  case rel => exact ⟨(decide ((l.length : Int) ≤ 1000)), 0, ⟨#[]⟩, a1, l.length, c1, none, 0, 0, rfl, Lib.hid ⟨heap_alloc_new W _, ((Below.refl _ W).alloc (Nat.le_refl _) _).drew, (by have h := nodeOk4 n s l ks; rw [show decide (l.length ≤ 1000) = decide ((l.length : Int) ≤ 1000) from decide_eq_decide.2 (by omega)] at h; exact h)⟩⟩
                ·
                  by_cases h5 : k = 5
                  · subst h5
                    by_cases hle : l.length = ks.length
                    · have He : Hid ((l.length == ks.length) = true) := Lib.hid (by simp [hle])
                      have Hle := Lib.hid hle
                      simp only [hle] at HA t4
                      clear hle
                      go_wp2_with fail
                      refine wp_region_turns (.s 0 (.s 1 (.s 2 (.s 3 (.s 4 (.s 5 (.s 6 (.s 7 (.s 8 (.s 9 (.s 10 (.s 11 (.s 12 (.s 13 (.s 16 (.h 14 (.s 15 (.h 17 (.s 18 (.h 19 (.s 20 .nil))))))))))))))))))))) 99 (fun W' => W'.heap[w.heap.size]? = some (.cells #[.int .i64 5, .int .i64 n, .string s, .slice a1 ks.length c1, .slice a2 ks.length c2] 37 (0, 0))) (by kernel_rfl) (by kernel_rfl) (fun c a d v w h => by cases d <;> exact h) (HA.out.2 _ HU.out.drew) ?_
                      refine turn_steady (.pointer (some ⟨w.heap.size, 3, none⟩)) rfl rfl (fun W' hS => ?_) ?_
                      · obtain ⟨s0, s1, s2, s3, s4, s5, s6, s7, s8, s9, s10⟩ := five_facts hS
                        clear hS
                        go_simp
                      simp only [List.getElem_toArray, List.getElem_cons_zero, Act.put, List.setIfInBounds_toArray, List.set_cons_zero, List.set_cons_succ]
                      refine turn_steady (.slice a1 ks.length c1) rfl rfl (fun W' hS => ?_) ?_
                      · obtain ⟨s0, s1, s2, s3, s4, s5, s6, s7, s8, s9, s10⟩ := five_facts hS
                        clear hS
                        go_simp
                      simp only [List.getElem_toArray, List.getElem_cons_succ, List.getElem_cons_zero, Act.put, List.setIfInBounds_toArray, List.set_cons_zero, List.set_cons_succ]
                      refine turn_steady (.pointer (some ⟨w.heap.size, 4, none⟩)) rfl rfl (fun W' hS => ?_) ?_
                      · obtain ⟨s0, s1, s2, s3, s4, s5, s6, s7, s8, s9, s10⟩ := five_facts hS
                        clear hS
                        go_simp
                      simp only [List.getElem_toArray, List.getElem_cons_succ, List.getElem_cons_zero, Act.put, List.setIfInBounds_toArray, List.set_cons_zero, List.set_cons_succ]
                      refine turn_steady (.slice a2 ks.length c2) rfl rfl (fun W' hS => ?_) ?_
                      · obtain ⟨s0, s1, s2, s3, s4, s5, s6, s7, s8, s9, s10⟩ := five_facts hS
                        clear hS
                        go_simp
                      simp only [List.getElem_toArray, List.getElem_cons_succ, List.getElem_cons_zero, Act.put, List.setIfInBounds_toArray, List.set_cons_zero, List.set_cons_succ]
                      refine turn_steady (.pointer (some ⟨w.heap.size, 3, none⟩)) rfl rfl (fun W' hS => ?_) ?_
                      · obtain ⟨s0, s1, s2, s3, s4, s5, s6, s7, s8, s9, s10⟩ := five_facts hS
                        clear hS
                        go_simp
                      simp only [List.getElem_toArray, List.getElem_cons_succ, List.getElem_cons_zero, Act.put, List.setIfInBounds_toArray, List.set_cons_zero, List.set_cons_succ]
                      refine turn_steady (.slice a1 ks.length c1) rfl rfl (fun W' hS => ?_) ?_
                      · obtain ⟨s0, s1, s2, s3, s4, s5, s6, s7, s8, s9, s10⟩ := five_facts hS
                        clear hS
                        go_simp
                      simp only [List.getElem_toArray, List.getElem_cons_succ, List.getElem_cons_zero, Act.put, List.setIfInBounds_toArray, List.set_cons_zero, List.set_cons_succ]
                      refine turn_steady (.int .i64 ks.length) rfl rfl (fun W' hS => ?_) ?_
                      · obtain ⟨s0, s1, s2, s3, s4, s5, s6, s7, s8, s9, s10⟩ := five_facts hS
                        clear hS
                        go_simp
                      simp only [List.getElem_toArray, List.getElem_cons_succ, List.getElem_cons_zero, Act.put, List.setIfInBounds_toArray, List.set_cons_zero, List.set_cons_succ]
                      refine turn_steady (.pointer (some ⟨w.heap.size, 4, none⟩)) rfl rfl (fun W' hS => ?_) ?_
                      · obtain ⟨s0, s1, s2, s3, s4, s5, s6, s7, s8, s9, s10⟩ := five_facts hS
                        clear hS
                        go_simp
                      simp only [List.getElem_toArray, List.getElem_cons_succ, List.getElem_cons_zero, Act.put, List.setIfInBounds_toArray, List.set_cons_zero, List.set_cons_succ]
                      refine turn_steady (.slice a2 ks.length c2) rfl rfl (fun W' hS => ?_) ?_
                      · obtain ⟨s0, s1, s2, s3, s4, s5, s6, s7, s8, s9, s10⟩ := five_facts hS
                        clear hS
                        go_simp
                      simp only [List.getElem_toArray, List.getElem_cons_succ, List.getElem_cons_zero, Act.put, List.setIfInBounds_toArray, List.set_cons_zero, List.set_cons_succ]
                      refine turn_steady (.int .i64 ks.length) rfl rfl (fun W' hS => ?_) ?_
                      · obtain ⟨s0, s1, s2, s3, s4, s5, s6, s7, s8, s9, s10⟩ := five_facts hS
                        clear hS
                        go_simp
                      simp only [List.getElem_toArray, List.getElem_cons_succ, List.getElem_cons_zero, Act.put, List.setIfInBounds_toArray, List.set_cons_zero, List.set_cons_succ]
                      refine turn_steady (.bool true) rfl rfl (fun W' hS => ?_) ?_
                      · obtain ⟨s0, s1, s2, s3, s4, s5, s6, s7, s8, s9, s10⟩ := five_facts hS
                        clear hS
                        go_simp
                      simp only [List.getElem_toArray, List.getElem_cons_succ, List.getElem_cons_zero, Act.put, List.setIfInBounds_toArray, List.set_cons_zero, List.set_cons_succ]
                      refine turn_steady (.bool true) rfl rfl (fun W' hS => ?_) ?_
                      · obtain ⟨s0, s1, s2, s3, s4, s5, s6, s7, s8, s9, s10⟩ := five_facts hS
                        clear hS
                        go_simp
                      simp only [List.getElem_toArray, List.getElem_cons_succ, List.getElem_cons_zero, Act.put, List.setIfInBounds_toArray, List.set_cons_zero, List.set_cons_succ]
                      refine turn_steady (.pointer (some ⟨w.heap.size, 4, none⟩)) rfl rfl (fun W' hS => ?_) ?_
                      · obtain ⟨s0, s1, s2, s3, s4, s5, s6, s7, s8, s9, s10⟩ := five_facts hS
                        clear hS
                        go_simp
                      simp only [List.getElem_toArray, List.getElem_cons_succ, List.getElem_cons_zero, Act.put, List.setIfInBounds_toArray, List.set_cons_zero, List.set_cons_succ]
                      refine turn_steady (.slice a2 ks.length c2) rfl rfl (fun W' hS => ?_) ?_
                      · obtain ⟨s0, s1, s2, s3, s4, s5, s6, s7, s8, s9, s10⟩ := five_facts hS
                        clear hS
                        go_simp
                      simp only [List.getElem_toArray, List.getElem_cons_succ, List.getElem_cons_zero, Act.put, List.setIfInBounds_toArray, List.set_cons_zero, List.set_cons_succ]
                      refine turn_steady (.pointer (some ⟨W.heap.size, 3, none⟩)) rfl rfl (fun W' hS => ?_) ?_
                      · obtain ⟨s0, s1, s2, s3, s4, s5, s6, s7, s8, s9, s10⟩ := five_facts hS
                        clear hS
                        go_simp
                      simp only [List.getElem_toArray, List.getElem_cons_succ, List.getElem_cons_zero, Act.put, List.setIfInBounds_toArray, List.set_cons_zero, List.set_cons_succ]
                      refine turn_heavy rfl (fun Kx hKx => ?_)
                      go_wp2_with fail
                      refine (rises_any a2 c2 ks _ ((HS2.out _ HU.out.drew)) hkl Hks.out).mono ?_
                      rintro e w1 ⟨rfl, rfl⟩
                      go_wp2_with fail
                      refine hKx _ _ (fun _ => HA.out.2 _ (by first | exact HU.out.drew | exact ((Below.refl _ W).alloc (Nat.le_refl _) _).drew)) ?_
                      skip
                      refine turn_steady (.bool (risesL ks)) rfl rfl (fun W' hS => ?_) ?_
                      · obtain ⟨s0, s1, s2, s3, s4, s5, s6, s7, s8, s9, s10⟩ := five_facts hS
                        clear hS
                        go_simp
                      simp only [List.getElem_toArray, List.getElem_cons_succ, List.getElem_cons_zero, Act.put, List.setIfInBounds_toArray, List.set_cons_zero, List.set_cons_succ]
                      refine turn_heavy rfl (fun Kx hKx => ?_)
                      go_wp2_with fail
                      refine hKx _ _ (fun _ => HA.out.2 _ (by first | exact HU.out.drew | exact ((Below.refl _ W).alloc (Nat.le_refl _) _).drew)) ?_
                      skip
                      refine turn_steady (.pointer (some ⟨W.heap.size, 4, none⟩)) rfl rfl (fun W' hS => ?_) ?_
                      · obtain ⟨s0, s1, s2, s3, s4, s5, s6, s7, s8, s9, s10⟩ := five_facts hS
                        clear hS
                        go_simp
                      simp only [List.getElem_toArray, List.getElem_cons_succ, List.getElem_cons_zero, Act.put, List.setIfInBounds_toArray, List.set_cons_zero, List.set_cons_succ]
                      refine turn_heavy rfl (fun Kx hKx => ?_)
                      go_wp2_with fail
                      refine hKx _ _ (fun _ => HA.out.2 _ (by first | exact HU.out.drew | exact ((Below.refl _ W).alloc (Nat.le_refl _) _).drew)) ?_
                      skip
                      refine turn_steady (.bool (risesL ks)) rfl rfl (fun W' hS => ?_) ?_
                      · obtain ⟨s0, s1, s2, s3, s4, s5, s6, s7, s8, s9, s10⟩ := five_facts hS
                        clear hS
                        go_simp
                      simp only [List.getElem_toArray, List.getElem_cons_succ, List.getElem_cons_zero, Act.put, List.setIfInBounds_toArray, List.set_cons_zero, List.set_cons_succ]
                      refine turn_end ?_
                      go_wp2_with fail
                      go_meet
                      case rel => exact ⟨(risesL ks), 0, ⟨#[]⟩, a1, ks.length, c1, a2, ks.length, c2, rfl, Lib.hid ⟨heap_alloc_new W _, ((Below.refl _ W).alloc (Nat.le_refl _) _).drew, (by have h := nodeOk5 n s l ks; rw [He.out, Bool.true_and, Hle.out] at h; rw [Hle.out]; exact h)⟩⟩
                    · have he : ((l.length : Int) == (ks.length : Int)) = false := by simp; omega
                      have He : Hid ((l.length == ks.length) = false) := Lib.hid (by simp [hle])
                      clear hle
                      go_wp2_with fail
                      refine wp_region_turns (.s 0 (.s 1 (.s 2 (.s 3 (.s 4 (.s 5 (.s 6 (.s 7 (.s 8 (.s 9 (.s 10 (.s 11 (.s 12 (.s 13 (.s 16 (.h 14 (.s 15 (.h 17 (.s 18 (.h 19 (.s 20 .nil))))))))))))))))))))) 99 (fun W' => W'.heap[w.heap.size]? = some (.cells #[.int .i64 5, .int .i64 n, .string s, .slice a1 l.length c1, .slice a2 ks.length c2] 37 (0, 0))) (by kernel_rfl) (by kernel_rfl) (fun c a d v w h => by cases d <;> exact h) (HA.out.2 _ HU.out.drew) ?_
                      refine turn_steady (.pointer (some ⟨w.heap.size, 3, none⟩)) rfl rfl (fun W' hS => ?_) ?_
                      · obtain ⟨s0, s1, s2, s3, s4, s5, s6, s7, s8, s9, s10⟩ := five_facts hS
                        clear hS
                        go_simp
                      simp only [List.getElem_toArray, List.getElem_cons_zero, Act.put, List.setIfInBounds_toArray, List.set_cons_zero, List.set_cons_succ]
                      refine turn_steady (.slice a1 l.length c1) rfl rfl (fun W' hS => ?_) ?_
                      · obtain ⟨s0, s1, s2, s3, s4, s5, s6, s7, s8, s9, s10⟩ := five_facts hS
                        clear hS
                        go_simp
                      simp only [List.getElem_toArray, List.getElem_cons_succ, List.getElem_cons_zero, Act.put, List.setIfInBounds_toArray, List.set_cons_zero, List.set_cons_succ]
                      refine turn_steady (.pointer (some ⟨w.heap.size, 4, none⟩)) rfl rfl (fun W' hS => ?_) ?_
                      · obtain ⟨s0, s1, s2, s3, s4, s5, s6, s7, s8, s9, s10⟩ := five_facts hS
                        clear hS
                        go_simp
                      simp only [List.getElem_toArray, List.getElem_cons_succ, List.getElem_cons_zero, Act.put, List.setIfInBounds_toArray, List.set_cons_zero, List.set_cons_succ]
                      refine turn_steady (.slice a2 ks.length c2) rfl rfl (fun W' hS => ?_) ?_
                      · obtain ⟨s0, s1, s2, s3, s4, s5, s6, s7, s8, s9, s10⟩ := five_facts hS
                        clear hS
                        go_simp
                      simp only [List.getElem_toArray, List.getElem_cons_succ, List.getElem_cons_zero, Act.put, List.setIfInBounds_toArray, List.set_cons_zero, List.set_cons_succ]
                      refine turn_steady (.pointer (some ⟨w.heap.size, 3, none⟩)) rfl rfl (fun W' hS => ?_) ?_
                      · obtain ⟨s0, s1, s2, s3, s4, s5, s6, s7, s8, s9, s10⟩ := five_facts hS
                        clear hS
                        go_simp
                      simp only [List.getElem_toArray, List.getElem_cons_succ, List.getElem_cons_zero, Act.put, List.setIfInBounds_toArray, List.set_cons_zero, List.set_cons_succ]
                      refine turn_steady (.slice a1 l.length c1) rfl rfl (fun W' hS => ?_) ?_
                      · obtain ⟨s0, s1, s2, s3, s4, s5, s6, s7, s8, s9, s10⟩ := five_facts hS
                        clear hS
                        go_simp
                      simp only [List.getElem_toArray, List.getElem_cons_succ, List.getElem_cons_zero, Act.put, List.setIfInBounds_toArray, List.set_cons_zero, List.set_cons_succ]
                      refine turn_steady (.int .i64 l.length) rfl rfl (fun W' hS => ?_) ?_
                      · obtain ⟨s0, s1, s2, s3, s4, s5, s6, s7, s8, s9, s10⟩ := five_facts hS
                        clear hS
                        go_simp
                      simp only [List.getElem_toArray, List.getElem_cons_succ, List.getElem_cons_zero, Act.put, List.setIfInBounds_toArray, List.set_cons_zero, List.set_cons_succ]
                      refine turn_steady (.pointer (some ⟨w.heap.size, 4, none⟩)) rfl rfl (fun W' hS => ?_) ?_
                      · obtain ⟨s0, s1, s2, s3, s4, s5, s6, s7, s8, s9, s10⟩ := five_facts hS
                        clear hS
                        go_simp
                      simp only [List.getElem_toArray, List.getElem_cons_succ, List.getElem_cons_zero, Act.put, List.setIfInBounds_toArray, List.set_cons_zero, List.set_cons_succ]
                      refine turn_steady (.slice a2 ks.length c2) rfl rfl (fun W' hS => ?_) ?_
                      · obtain ⟨s0, s1, s2, s3, s4, s5, s6, s7, s8, s9, s10⟩ := five_facts hS
                        clear hS
                        go_simp
                      simp only [List.getElem_toArray, List.getElem_cons_succ, List.getElem_cons_zero, Act.put, List.setIfInBounds_toArray, List.set_cons_zero, List.set_cons_succ]
                      refine turn_steady (.int .i64 ks.length) rfl rfl (fun W' hS => ?_) ?_
                      · obtain ⟨s0, s1, s2, s3, s4, s5, s6, s7, s8, s9, s10⟩ := five_facts hS
                        clear hS
                        go_simp
                      simp only [List.getElem_toArray, List.getElem_cons_succ, List.getElem_cons_zero, Act.put, List.setIfInBounds_toArray, List.set_cons_zero, List.set_cons_succ]
                      refine turn_steady (.bool false) rfl rfl (fun W' hS => ?_) ?_
                      · obtain ⟨s0, s1, s2, s3, s4, s5, s6, s7, s8, s9, s10⟩ := five_facts hS
                        clear hS
                        go_simp
                      simp only [List.getElem_toArray, List.getElem_cons_succ, List.getElem_cons_zero, Act.put, List.setIfInBounds_toArray, List.set_cons_zero, List.set_cons_succ]
                      refine turn_steady (.bool false) rfl rfl (fun W' hS => ?_) ?_
                      · obtain ⟨s0, s1, s2, s3, s4, s5, s6, s7, s8, s9, s10⟩ := five_facts hS
                        clear hS
                        go_simp
                      simp only [List.getElem_toArray, List.getElem_cons_succ, List.getElem_cons_zero, Act.put, List.setIfInBounds_toArray, List.set_cons_zero, List.set_cons_succ]
                      refine turn_skip rfl rfl ?_
                      simp only [List.getElem_toArray, List.getElem_cons_succ, List.getElem_cons_zero, Act.put, List.setIfInBounds_toArray, List.set_cons_zero, List.set_cons_succ]
                      refine turn_skip rfl rfl ?_
                      simp only [List.getElem_toArray, List.getElem_cons_succ, List.getElem_cons_zero, Act.put, List.setIfInBounds_toArray, List.set_cons_zero, List.set_cons_succ]
                      refine turn_steady (.pointer (some ⟨W.heap.size, 3, none⟩)) rfl rfl (fun W' hS => ?_) ?_
                      · obtain ⟨s0, s1, s2, s3, s4, s5, s6, s7, s8, s9, s10⟩ := five_facts hS
                        clear hS
                        go_simp
                      simp only [List.getElem_toArray, List.getElem_cons_succ, List.getElem_cons_zero, Act.put, List.setIfInBounds_toArray, List.set_cons_zero, List.set_cons_succ]
                      refine turn_heavy rfl (fun Kx hKx => ?_)
                      go_wp2_with fail
                      refine hKx _ _ (fun _ => HA.out.2 _ (by first | exact HU.out.drew | exact ((Below.refl _ W).alloc (Nat.le_refl _) _).drew)) ?_
                      skip
                      refine turn_steady (.bool false) rfl rfl (fun W' hS => ?_) ?_
                      · obtain ⟨s0, s1, s2, s3, s4, s5, s6, s7, s8, s9, s10⟩ := five_facts hS
                        clear hS
                        go_simp
                      simp only [List.getElem_toArray, List.getElem_cons_succ, List.getElem_cons_zero, Act.put, List.setIfInBounds_toArray, List.set_cons_zero, List.set_cons_succ]
                      refine turn_heavy rfl (fun Kx hKx => ?_)
                      go_wp2_with fail
                      refine hKx _ _ (fun _ => HA.out.2 _ (by first | exact HU.out.drew | exact ((Below.refl _ W).alloc (Nat.le_refl _) _).drew)) ?_
                      skip
                      refine turn_steady (.pointer (some ⟨W.heap.size, 4, none⟩)) rfl rfl (fun W' hS => ?_) ?_
                      · obtain ⟨s0, s1, s2, s3, s4, s5, s6, s7, s8, s9, s10⟩ := five_facts hS
                        clear hS
                        go_simp
                      simp only [List.getElem_toArray, List.getElem_cons_succ, List.getElem_cons_zero, Act.put, List.setIfInBounds_toArray, List.set_cons_zero, List.set_cons_succ]
                      refine turn_heavy rfl (fun Kx hKx => ?_)
                      go_wp2_with fail
                      refine hKx _ _ (fun _ => HA.out.2 _ (by first | exact HU.out.drew | exact ((Below.refl _ W).alloc (Nat.le_refl _) _).drew)) ?_
                      skip
                      refine turn_steady (.bool false) rfl rfl (fun W' hS => ?_) ?_
                      · obtain ⟨s0, s1, s2, s3, s4, s5, s6, s7, s8, s9, s10⟩ := five_facts hS
                        clear hS
                        go_simp
                      simp only [List.getElem_toArray, List.getElem_cons_succ, List.getElem_cons_zero, Act.put, List.setIfInBounds_toArray, List.set_cons_zero, List.set_cons_succ]
                      refine turn_end ?_
                      go_wp2_with fail
                      go_meet
                      case rel => exact ⟨false, 0, ⟨#[]⟩, a1, l.length, c1, a2, ks.length, c2, rfl, Lib.hid ⟨heap_alloc_new W _, ((Below.refl _ W).alloc (Nat.le_refl _) _).drew, (by have h := nodeOk5 n s l ks; rw [He.out, Bool.false_and] at h; exact h)⟩⟩
                  ·
                    have e0 : (k == 0) = false := by simpa using h0
                    have e1 : (k == 1) = false := by simpa using h1
                    have e2 : (k == 2) = false := by simpa using h2
                    have e3 : (k == 3) = false := by simpa using h3
                    have e4 : (k == 4) = false := by simpa using h4
                    have e5 : (k == 5) = false := by simpa using h5
                    have Hx : Hid (mayV (.mk k n s l ks) d m = (false, m - 1)) := Lib.hid (by rw [Hr.out, nodeOkx n s l ks ⟨h0, h1, h2, h3, h4, h5⟩]; rfl)
                    clear h0 h1 h2 h3 h4 h5
                    go_wp2_with fail
                    go_ret
                    rw [Hx.out]
                    exact ⟨rfl, grownBy_trans HW.out.grown (grownBy_below HU.out), (HU.out.block _ (by have := HW.out.size; have := HW.out.lbl; omega)).trans HW.out.left⟩
      case rest =>
        obtain ⟨rt, bn, bs, a3, l3, c3, a4, l4, c4, hrv, Hc⟩ := hcut
        subst hrv
        rename World => wc
        have HWc := Lib.hid (HW.out.below Hc.out.2.1)
        have Hno : Hid (nodeOk k n s l ks = false → Hid (mayV (.mk k n s l ks) d m = (false, m - 1))) := Lib.hid (fun h => Lib.hid (by rw [Hr.out, h]; rfl))
        clear t0 t1 t2 t3 t4 t5 t6 t7 t8 t9 t10
        obtain ⟨t0, t1, t2, t3, t4, t5, t6, t7, t8, t9, t10⟩ := five_facts HWc.out.a
        obtain ⟨u0, u1, u2, u3, u4, u5, u6, u7, u8, u9, u10⟩ := five_facts Hc.out.1
        cases rt
        · have h9 : nodeOk k n s l ks = false := by rw [Hc.out.2.2]; rfl
          have Hx := Hno.out h9
          clear h9
          go_wp2_with fail
          go_ret
          rw [Hx.out]
          exact ⟨rfl, grownBy_trans HW.out.grown (grownBy_below Hc.out.2.1), HWc.out.left⟩
        · cases hn : (bn == n)
          · have hn' : (bn != n) = true := by simp [bne, hn]
            have h9 : nodeOk k n s l ks = false := by rw [Hc.out.2.2, hn]; simp
            have Hx := Hno.out h9
            clear h9
            go_wp2_with fail
            go_ret
            rw [Hx.out]
            exact ⟨rfl, grownBy_trans HW.out.grown (grownBy_below Hc.out.2.1), HWc.out.left⟩
          · have hn' : (bn != n) = false := by simp [bne, hn]
            cases hs : (bs.toList == s.toList)
            · have hs' : (bs.toList != s.toList) = true := by simp [bne, hs]
              have h9 : nodeOk k n s l ks = false := by rw [Hc.out.2.2, hs]; simp
              have Hx := Hno.out h9
              clear h9
              go_wp2_with fail
              go_ret
              rw [Hx.out]
              exact ⟨rfl, grownBy_trans HW.out.grown (grownBy_below Hc.out.2.1), HWc.out.left⟩
            · have hs' : (bs.toList != s.toList) = false := by simp [bne, hs]
              cases hl3 : ((l3 : Int) == (l.length : Int))
              · have hl3' : ((l3 : Int) != (l.length : Int)) = true := by simp [bne, hl3]
                have h9 : nodeOk k n s l ks = false := by rw [Hc.out.2.2, hl3]; simp
                have Hx := Hno.out h9
                clear h9
                go_wp2_with fail
                go_ret
                rw [Hx.out]
                exact ⟨rfl, grownBy_trans HW.out.grown (grownBy_below Hc.out.2.1), HWc.out.left⟩
              · have hl3' : ((l3 : Int) != (l.length : Int)) = false := by simp [bne, hl3]
                cases hl4 : ((l4 : Int) == (ks.length : Int))
                · have hl4' : ((l4 : Int) != (ks.length : Int)) = true := by simp [bne, hl4]
                  have h9 : nodeOk k n s l ks = false := by rw [Hc.out.2.2, hl4]; simp
                  have Hx := Hno.out h9
                  clear h9
                  go_wp2_with fail
                  go_ret
                  rw [Hx.out]
                  exact ⟨rfl, grownBy_trans HW.out.grown (grownBy_below Hc.out.2.1), HWc.out.left⟩
                · have hl4' : ((l4 : Int) != (ks.length : Int)) = false := by simp [bne, hl4]
                  have Hyes : Hid (mayV (.mk k n s l ks) d m = mayVs l (d + 1) (m - 1)) := Lib.hid (by rw [Hr.out, if_pos (by rw [Hc.out.2.2, hn, hs, hl3, hl4]; rfl)])
                  have hmf : ∀ (fn : Fn) (first cap : Array Value) (w : World), (Instr.makeFunc fn first cap).run Tryz.prog w = .ok (.func fn first cap) w := fun _ _ _ _ => rfl
                  have hgw := HWc.out.grown
                  have Hcf := Lib.hid (containsFunc_vals F 124 #[] #[.pointer (some ⟨w.heap.size + 1, 0, none⟩), .pointer (some ⟨w.heap.size + 1 + 1, 0, none⟩)] (by intro args w; rfl) a1 c1 l (mayQ (d + 1) l (m - 1))
                    (fun j W' => wc.grownBy W' (some lb) ∧ W'.heap[lb]? = some (.cells #[.int .i64 (leftAt (d + 1) l (m - 1) j)] 3 (0, 0))) wc (by omega) ⟨grownBy_refl _ _, by rw [leftAt_zero]; exact HWc.out.left⟩
                    (fun j W' h => Hr1.out.mono (fun b hF hl => ⟨hF, Nat.lt_of_lt_of_le hl (grownBy_trans hgw h.1).size, (grownBy_trans hgw h.1).block b hl (fun e => by cases e; exact HF.out _ hF rfl)⟩))
                    (fun j kk kn ks' km kks b1 e1 b2 e2 W' hj hI hq hr1 hr2 => by
                      have hlo := leftAt_ok (d + 1) l (m - 1) j (by omega) (fun i hi hil => hq i hi)
                      have hsz := HWc.out.size
                      have hlbl := HWc.out.lbl
                      have hx : MayC (.mk kk kn ks' km kks) := Hit.out _ (List.mem_of_getElem? hj)
                      refine (may1_any (.mk kk kn ks' km kks) hx F d (leftAt (d + 1) l (m - 1) j) lb (w.heap.size + 1) (w.heap.size + 1 + 1) b1 e1 b2 e2 W' HF.out hd0 (by omega) hlo.1 (by omega) hI.2
                        ((hI.1.block _ (by omega) (fun e => by cases e; omega)).trans HWc.out.b) ((hI.1.block _ (by omega) (fun e => by cases e; omega)).trans HWc.out.c) hr1 hr2).mono ?_
                      rintro e w2 ⟨rfl, hg2, hl2⟩
                      have hq' : mayQ (d + 1) l (m - 1) j = !(mayV (.mk kk kn ks' km kks) (d + 1) (leftAt (d + 1) l (m - 1) j)).1 := by unfold mayQ; rw [hj]
                      exact ⟨by rw [hq'], grownBy_trans hI.1 hg2, by rw [leftAt_succ _ _ _ _ _ hj]; exact hl2⟩))
                  clear hgw
                  go_wp2_with fail
                  refine Hcf.out.mono ?_
                  rintro e w2 (⟨i, hi, hqi, hq, rfl, hI2⟩ | ⟨hq, rfl, hI2⟩)
                  · have Hfin : Hid (mayV (.mk k n s l ks) d m = (false, leftAt (d + 1) l (m - 1) (i + 1))) := Lib.hid (by rw [Hyes.out]; exact mayQ_some _ _ _ _ hi hqi hq)
                    have HI2 := Lib.hid hI2
                    clear hi hqi hq hI2
                    go_wp2_with fail
                    go_ret
                    rw [Hfin.out]
                    exact ⟨rfl, grownBy_trans HWc.out.grown HI2.out.1, HI2.out.2⟩
                  · have Hfin : Hid (mayV (.mk k n s l ks) d m = (true, leftAt (d + 1) l (m - 1) l.length)) := Lib.hid (by rw [Hyes.out]; exact mayQ_none _ _ _ hq)
                    have HI2 := Lib.hid hI2
                    clear hq hI2
                    go_wp2_with fail
                    go_ret
                    rw [Hfin.out]
                    exact ⟨rfl, grownBy_trans HWc.out.grown HI2.out.1, HI2.out.2⟩

theorem may_all (v : Vl) : smallV v → MayC v :=
  Vl.rec (motive_1 := fun v => smallV v → MayC v) (motive_2 := fun l => smallVs l → ∀ x ∈ l, MayC x)
    (fun k n s l ks ih hs => by
      rw [smallV] at hs
      intro F d m lb a1 c1 a2 c2 w hF hd0 hd1 hm0 hm1 hb hr1 hr2
      exact may_node k n s l ks F d m lb a1 c1 a2 c2 w hd0 hd1 hm0 hm1 hb hr1 hr2 hF hs.2.1 hs.2.2.1 hs.2.2.2.1 hs.1 (ih hs.2.2.2.2))
    (fun _ x hx => by cases hx)
    (fun v t hv ht hs x hx => by
      rw [smallVs] at hs
      rcases List.mem_cons.1 hx with rfl | hx
      · exact hv hs.1
      · exact ht hs.2 x hx) v

set_option maxRecDepth 100000 in
/-- value.Check. -/
theorem check_any (v : Vl) (hs : smallV v) (F : Nat → Prop) (a1 : Option Addr) (c1 : Nat) (a2 : Option Addr) (c2 : Nat) (w : World) (hF : ∀ b, F b → b < w.heap.size) (hr1 : RowAt F w a1 (valsD v.items)) (hr2 : RowAt F w a2 (strsD v.keys)) :
    Calls Tryz.prog 55 #[vCells v.kind v.num v.str a1 v.items.length c1 a2 v.keys.length c2] w (fun e w' => e = .returned (.bool (checkV v)) ∧ Below w.heap.size w w') := by
  have hb0 : Below w.heap.size w ((w.alloc (.cells #[.int .i64 v.kind, .int .i64 v.num, .string v.str, .slice a1 v.items.length c1, .slice a2 v.keys.length c2] 37)).alloc (.cells #[.int .i64 20000] 3)) := ((Below.refl _ w).alloc (Nat.le_refl _) _).alloc (by simp) _
  have hl : ((w.alloc (.cells #[.int .i64 v.kind, .int .i64 v.num, .string v.str, .slice a1 v.items.length c1, .slice a2 v.keys.length c2] 37)).alloc (.cells #[.int .i64 20000] 3)).heap[w.heap.size + 1]? = some (.cells #[.int .i64 20000] 3 (0, 0)) := by
    have := heap_alloc_new (w.alloc (.cells #[.int .i64 v.kind, .int .i64 v.num, .string v.str, .slice a1 v.items.length c1, .slice a2 v.keys.length c2] 37)) (.cells #[.int .i64 20000] 3)
    simpa using this
  have Hc := Lib.hid (may_all v hs F 1 20000 (w.heap.size + 1) a1 c1 a2 c2 _ (fun b hb => by have := hF b hb; omega) (by omega) (by omega) (by omega) (by omega) hl (hr1.below hb0) (hr2.below hb0))
  have Hb0 := Lib.hid hb0
  clear hl hr1 hr2 hb0 hF
  unfold vCells at Hc ⊢
  go_enter Tryz.func55, Tryz.ntmps55
  go_wp2_with fail
  refine Hc.out.mono ?_
  rintro e w1 ⟨rfl, hg, -⟩
  go_wp2_with fail
  go_ret
  exact ⟨rfl, ⟨hg.os.trans Hb0.out.os, hg.tape.trans Hb0.out.tape, hg.output.trans Hb0.out.output, Nat.le_trans Hb0.out.size hg.size, fun b hb => (hg.block b (Nat.lt_of_lt_of_le hb Hb0.out.size) (fun e => by cases e; omega)).trans (Hb0.out.block b hb)⟩⟩
end Go.Proofs.YthknljeffpbbmaaGreatDoor
namespace Go.Proofs.YthknljeffpbbmaaGreatDoor
open Go Go.RowKit

theorem rises_keys : ∀ (l : List ByteArray) (p : Option ByteArray), risesGo p l = true → ∀ s ∈ l, s.size ≤ 65536
  | [], _, _, s, hs => by cases hs
  | x :: t, p, h, s, hs => by
    rw [risesGo_cons] at h
    simp only [Bool.and_eq_true, decide_eq_true_eq] at h
    rcases List.mem_cons.1 hs with rfl | hs
    · exact h.1.1
    · exact rises_keys t _ h.2 s hs
theorem str_empty {s : ByteArray} (h : s.toList = []) : s.size = 0 := by
  rw [Lib.toList_data] at h
  rw [← len_data, h]; rfl
theorem nodeOk_small {k n : Int} {s : ByteArray} {l : List Vl} {ks : List ByteArray} (h : nodeOk k n s l ks = true) : s.size ≤ 65536 ∧ l.length ≤ 1000 ∧ ks.length ≤ 1000 ∧ ∀ x ∈ ks, x.size ≤ 65536 := by
  unfold nodeOk at h
  split at h
  · simp only [Bool.and_eq_true, List.isEmpty_iff] at h
    obtain ⟨⟨⟨-, h2⟩, rfl⟩, rfl⟩ := h
    have := str_empty h2
    exact ⟨by omega, by simp, by simp, by simp⟩
  · split at h
    · simp only [Bool.and_eq_true, List.isEmpty_iff] at h
      obtain ⟨⟨⟨-, h2⟩, rfl⟩, rfl⟩ := h
      have := str_empty h2
      exact ⟨by omega, by simp, by simp, by simp⟩
    · split at h
      · simp only [Bool.and_eq_true, List.isEmpty_iff] at h
        obtain ⟨⟨h2, rfl⟩, rfl⟩ := h
        have := str_empty h2
        exact ⟨by omega, by simp, by simp, by simp⟩
      · split at h
        · simp only [Bool.and_eq_true, List.isEmpty_iff, decide_eq_true_eq] at h
          obtain ⟨⟨⟨-, h2⟩, rfl⟩, rfl⟩ := h
          exact ⟨h2, by simp, by simp, by simp⟩
        · split at h
          · simp only [Bool.and_eq_true, List.isEmpty_iff, decide_eq_true_eq] at h
            obtain ⟨⟨⟨-, h2⟩, h3⟩, rfl⟩ := h
            have := str_empty h2
            exact ⟨by omega, h3, by simp, by simp⟩
          · split at h
            · simp only [Bool.and_eq_true, beq_iff_eq] at h
              obtain ⟨⟨⟨-, h2⟩, h3⟩, h4⟩ := h
              have := str_empty (List.isEmpty_iff.1 h2)
              unfold risesL at h4
              simp only [Bool.and_eq_true, decide_eq_true_eq] at h4
              exact ⟨by omega, by omega, h4.2, rises_keys _ _ h4.1⟩
            · cases h
/-- What may be is small. -/
theorem may_small (v : Vl) : ∀ d m, (mayV v d m).1 = true → smallV v :=
  Vl.rec (motive_1 := fun v => ∀ d m, (mayV v d m).1 = true → smallV v) (motive_2 := fun l => ∀ d m, (mayVs l d m).1 = true → smallVs l)
    (fun k n s l ks ih d m h => by
      rw [mayV] at h
      split at h
      · cases h
      · split at h
        · rename_i hk
          obtain ⟨h1, h2, h3, h4⟩ := nodeOk_small hk
          rw [smallV]
          exact ⟨by omega, by omega, by omega, fun x hx => by have := h4 x hx; omega, ih _ _ h⟩
        · cases h)
    (fun _ _ _ => by rw [smallVs]; trivial)
    (fun v t hv ht d m h => by
      rw [mayVs] at h
      split at h
      · rename_i h1
        rw [smallVs]
        exact ⟨hv _ _ h1, ht _ _ h⟩
      · cases h) v
theorem check_small {v : Vl} (h : checkV v = true) : smallV v := may_small v _ _ h
end Go.Proofs.YthknljeffpbbmaaGreatDoor
namespace Go.Proofs.YthknljeffpbbmaaGreatDoor
open Go Go.RowKit

/-- The texts of a list that holds texts alone. -/
def textsL (v : Vl) : Option (List ByteArray) := if v.kind = 4 ∧ checkV v = true ∧ v.items.all (fun x => x.kind == 3) = true then some (v.items.map Vl.str) else none
def PTexts (v : Vl) (w : World) (e : Ending) (w' : World) : Prop := Below w.heap.size w w' ∧ match textsL v with
  | some l => ∃ x, e = .returned (.tuple #[x, .bool true]) ∧ OwnS w' w.heap.size x l
  | none => e = .returned (.tuple #[.slice none 0 0, .bool false])

theorem check_len {k n : Int} {s : ByteArray} {l : List Vl} {ks : List ByteArray} (h : checkV (.mk k n s l ks) = true) : s.size ≤ 65536 ∧ l.length ≤ 1000 ∧ ks.length ≤ 1000 := by
  unfold checkV at h
  rw [mayV] at h
  split at h
  · cases h
  · split at h
    · rename_i hk
      obtain ⟨h1, h2, h3, -⟩ := nodeOk_small hk
      exact ⟨h1, h2, h3⟩
    · cases h
set_option maxRecDepth 100000 in
set_option maxHeartbeats 1000000 in
theorem texts_any (k n : Int) (s : ByteArray) (l : List Vl) (ks : List ByteArray) (hs : smallV (.mk k n s l ks)) (F : Nat → Prop) (a1 : Option Addr) (c1 : Nat) (a2 : Option Addr) (c2 : Nat) (w : World) (hF : ∀ b, F b → b < w.heap.size) (hr1 : RowAt F w a1 (valsD l)) (hr2 : RowAt F w a2 (strsD ks)) :
    Calls Tryz.prog 28 #[.agg #[.int .i64 k, .int .i64 n, .string s, .slice a1 l.length c1, .slice a2 ks.length c2]] w (PTexts (.mk k n s l ks) w) := by
  have hb0 : Below w.heap.size w (w.alloc (.cells #[.int .i64 k, .int .i64 n, .string s, .slice a1 l.length c1, .slice a2 ks.length c2] 37)) := (Below.refl _ w).alloc (Nat.le_refl _) _
  have H0 := Lib.hid (heap_alloc_new w (.cells #[.int .i64 k, .int .i64 n, .string s, .slice a1 l.length c1, .slice a2 ks.length c2] 37))
  have Hck := Lib.hid (check_any (.mk k n s l ks) hs F a1 c1 a2 c2 _ (fun b hb => Nat.lt_of_lt_of_le (hF b hb) hb0.size) (hr1.below hb0) (hr2.below hb0))
  have Hb0 := Lib.hid hb0
  have Hr1 := Lib.hid (hr1.below hb0)
  unfold vCells at Hck
  have Hz : Hid (∀ x ∈ l, smallV x) := Lib.hid (by rw [smallV] at hs; exact fun x hx => smallVs_mem hs.2.2.2.2 hx)
  have hlen : l.length ≤ 140737488355328 := by rw [smallV] at hs; exact hs.2.1
  clear hs hF hr1 hr2 hb0
  by_cases hk : k = 4
  · subst hk
    cases hck : checkV (.mk 4 n s l ks) with
    | false =>
      have Ht : Hid (textsL (.mk 4 n s l ks) = none) := Lib.hid (by unfold textsL; rw [if_neg (fun h => by rw [hck] at h; exact absurd h.2.1 (by decide))])
      rw [hck] at Hck
      clear hck
      go_enter Tryz.func28, Tryz.ntmps28
      go_wp2_with fail
      refine Hck.out.mono ?_
      rintro e w1 ⟨rfl, hb1⟩
      have Hb1 := Lib.hid (Hb0.out.trans (hb1.mono Hb0.out.size))
      clear hb1
      go_wp2_with fail
      refine bodyPost_ret (v := .tuple #[.slice none 0 0, .bool false]) (by simp [results, Tryz.results28, go_sem]) rfl ?_
      unfold PTexts
      rw [Ht.out]
      exact ⟨Hb1.out, rfl⟩
    | true =>
      have Ht : Hid (textsL (.mk 4 n s l ks) = if l.all (fun x => x.kind == 3) = true then some (l.map Vl.str) else none) := Lib.hid (by
        unfold textsL
        by_cases h : l.all (fun x => x.kind == 3) = true
        · rw [if_pos ⟨rfl, hck, h⟩, if_pos h]; rfl
        · rw [if_neg (fun h' => h h'.2.2), if_neg h])
      rw [hck] at Hck
      have hl1 : l.length ≤ 1000 := (check_len hck).2.1
      clear hck hlen
      obtain ⟨i0, hi, hz0, hz1, hz2⟩ := info_parts infoStr
      go_enter Tryz.func28, Tryz.ntmps28
      go_wp2_with fail
      refine Hck.out.mono ?_
      rintro e w1 ⟨rfl, hb1⟩
      have Hb1 := Lib.hid (Hb0.out.trans (hb1.mono Hb0.out.size))
      have H1 := Lib.hid (stays H0.out hb1)
      have Hr := Lib.hid (Hr1.out.below hb1)
      clear hb1 H0 Hb0 Hr1 Hck
      obtain ⟨q0, q1, q2, q3, q4, q5, q6, q7, q8, q9, q10⟩ := five_facts H1.out
      have hw1 : w.heap.size + 1 ≤ w1.heap.size := by have := here H1.out; omega
      go_wp2_with fail
      go_loopw [4, 18] (fun v i wr => ∃ j : Nat, i = .int .i64 j ∧ j ≤ l.length ∧ Hid (OwnS wr w1.heap.size v ((l.take j).map Vl.str)) ∧ Hid (Below w1.heap.size w1 wr) ∧ Hid ((l.take j).all (fun x => x.kind == 3) = true)) (fun _ i _ => l.length - (intOf i).toNat)
      case atStart => exact ⟨0, rfl, Nat.zero_le _, Lib.hid (OwnS.nil _ _), Lib.hid (Below.refl _ _), Lib.hid rfl⟩
      case round =>
        obtain ⟨j, rfl, hj, hown, hbw, hall⟩ := hrel
        by_cases hlt : j < l.length
        · cases hx : l[j] with
          | mk xk xn xs xl xks =>
            have hjx : l[j]? = some (.mk xk xn xs xl xks) := by rw [List.getElem?_eq_getElem hlt, hx]
            obtain ⟨b, off, b1, e1, b2, e2, hae, -, hbl, r0, r1, r2, r3, r4, -, -⟩ := (Hr.out.below hbw.out).val hjx
            have htk : l.take (j + 1) = l.take j ++ [.mk xk xn xs xl xks] := by rw [List.take_add_one, hjx]; rfl
            have hzx : xs.size ≤ 9223372036854775807 := by
              have := Hz.out _ (List.mem_of_getElem? hjx)
              rw [smallV] at this
              exact this.1
            subst hae
            have Hq := Lib.hid (stays H1.out hbw.out)
            obtain ⟨aL, cL, rfl, -, -⟩ := hown.out.strsAt
            rw [List.length_map, List.length_take, Nat.min_eq_left hj] at hown ⊢
            clear hx hjx
            by_cases hk3 : xk = 3
            · subst hk3
              have hown1 : OwnS (wr.alloc (.cells #[.int .i64 3, .int .i64 xn, .string xs, .slice b1 xl.length e1, .slice b2 xks.length e2] 37)) w1.heap.size (.slice aL j cL) ((l.take j).map Vl.str) := hown.out.below ((Below.refl _ _).alloc (Nat.le_refl _) _)
              have hnews := lit_one (wr.alloc (.cells #[.int .i64 3, .int .i64 xn, .string xs, .slice b1 xl.length e1, .slice b2 xks.length e2] 37)) (.string xs) 9
              rw [show (wr.alloc (.cells #[.int .i64 3, .int .i64 xn, .string xs, .slice b1 xl.length e1, .slice b2 xks.length e2] 37)).heap.size = wr.heap.size + 1 by simp] at hnews
              have Hnews := Lib.hid hnews
              have Hown1 : Hid (((wr.alloc (.cells #[.int .i64 3, .int .i64 xn, .string xs, .slice b1 xl.length e1, .slice b2 xks.length e2] 37)).alloc (.cells #[.string xs] 9)).ownsRow w1.heap.size 9 1 (.slice aL j cL) j (((l.take j).map Vl.str).map Value.string)) := Lib.hid (by
                have := hown1.below ((Below.refl _ _).alloc (Nat.le_refl _) (.cells #[.string xs] 9))
                unfold OwnS at this
                rw [List.length_map, List.length_take, Nat.min_eq_left hj] at this
                exact this)
              have Hblk : Hid (∀ g, (Value.slice aL j cL).ownBlock = some g → w1.heap.size ≤ g) := Lib.hid (fun g hg => (hown.out.block hg).1)
              have hall' : Hid ((l.take (j + 1)).all (fun x => x.kind == 3) = true) := Lib.hid (by rw [htk, List.all_append, hall.out]; rfl)
              have Htk : Hid ((l.take (j + 1)).map Vl.str = (l.take j).map Vl.str ++ [xs]) := Lib.hid (by rw [htk, List.map_append]; rfl)
              have hsz := hbw.out.size
              clear hnews hown1 htk hown hall
              go_wp2_with (at_builtin; refine wpList_append_own _ rfl _ _ 35 rfl w1.heap.size 9 i0 (.string ByteArray.empty) 1 16 Tryz.underlying35 hi hz0 hz1 hz2 rfl (by decide) (.slice aL j cL) j _ rfl Hown1.out ⟨wr.heap.size + 1, 0, none⟩ 1 1 [.string xs] rfl rfl Hnews.out ?_ ?_ ?_ ?_ ?_)
              · simp [Value.oneCell']
              · unfold maxLen; omega
              · omega
              · simp; omega
              intro v2 w2 hown2 hgrow2 _
              have Hown2 : Hid (OwnS w2 w1.heap.size v2 ((l.take (j + 1)).map Vl.str)) := Lib.hid (by
                rw [Htk.out]
                unfold OwnS
                rw [List.length_append, List.length_map, List.length_take, Nat.min_eq_left hj, List.map_append]
                simpa using hown2)
              have Hbw2 : Hid (Below w1.heap.size w1 w2) := Lib.hid ((hbw.out.trans ((((Below.refl _ wr).alloc (Nat.le_refl _) _).alloc (by simp) _).mono hsz)).trans (grown_below hgrow2 Hblk.out (by simp; omega)))
              obtain ⟨aL2, cL2, rfl, -, -⟩ := Hown2.out.strsAt
              clear hown2 hgrow2 hbw
              go_wp2_with fail
              go_roundw
              case rel => exact ⟨j + 1, by go_num, by omega, Hown2, Hbw2, hall'⟩
              case measure => simp only [intOf]; omega
            · have hk3' : (xk != 3) = true := by simpa using hk3
              have Hn : Hid (textsL (.mk 4 n s l ks) = none) := Lib.hid (by
                rw [Ht.out, if_neg]
                intro h
                rw [List.all_eq_true] at h
                have hm : Vl.mk xk xn xs xl xks ∈ l := by
                  have : Vl.mk xk xn xs xl xks ∈ l.take (j + 1) := by rw [htk]; simp
                  exact List.mem_of_mem_take this
                have := h _ hm
                exact hk3 (by simpa [Vl.kind] using this))
              clear htk
              go_wp2_with fail
              refine bodyPost_ret (v := .tuple #[.slice none 0 0, .bool false]) (by simp [results, Tryz.results28, go_sem]) rfl ?_
              unfold PTexts
              rw [Hn.out]
              exact ⟨Hb1.out.trans ((hbw.out.trans ((Below.refl _ wr).alloc (Nat.le_refl _) _ |>.mono hbw.out.size)).mono (by omega)), rfl⟩
        · have hdone : l.take j = l := List.take_of_length_le (by omega)
          rw [hdone] at hown hall
          have Hfin : Hid (textsL (.mk 4 n s l ks) = some (l.map Vl.str)) := Lib.hid (by rw [Ht.out, if_pos hall.out])
          have hown' := hown.out.lower (base' := w.heap.size) (by omega)
          have Hown' := Lib.hid hown'
          obtain ⟨aL, cL, rfl, -, -⟩ := hown'.strsAt
          clear hown' hown hall hdone
          go_wp2_with fail
          refine bodyPost_ret (v := .tuple #[.slice aL (l.map Vl.str).length cL, .bool true]) (by simp [results, Tryz.results28, go_sem]) rfl ?_
          unfold PTexts
          rw [Hfin.out]
          exact ⟨Hb1.out.trans (hbw.out.mono (by omega)), _, rfl, Hown'.out⟩
  · have Ht : Hid (textsL (.mk k n s l ks) = none) := Lib.hid (by unfold textsL; rw [if_neg (fun h => hk h.1)])
    have hk' : (k != 4) = true := by simpa using hk
    go_enter Tryz.func28, Tryz.ntmps28
    go_wp2_with fail
    refine bodyPost_ret (v := .tuple #[.slice none 0 0, .bool false]) (by simp [results, Tryz.results28, go_sem]) rfl ?_
    unfold PTexts
    rw [Ht.out]
    exact ⟨Hb0.out, rfl⟩
end Go.Proofs.YthknljeffpbbmaaGreatDoor
namespace Go.Proofs.YthknljeffpbbmaaGreatDoor
open Go Go.RowKit

theorem may_mono (v : Vl) : ∀ d m d' m', d' ≤ d → m ≤ m' → (mayV v d m).1 = true → (mayV v d' m').1 = true ∧ (mayV v d' m').2 = (mayV v d m).2 + (m' - m) ∧ (mayV v d m).2 ≤ m :=
  Vl.rec (motive_1 := fun v => ∀ d m d' m', d' ≤ d → m ≤ m' → (mayV v d m).1 = true → (mayV v d' m').1 = true ∧ (mayV v d' m').2 = (mayV v d m).2 + (m' - m) ∧ (mayV v d m).2 ≤ m)
    (motive_2 := fun l => ∀ d m d' m', d' ≤ d → m ≤ m' → (mayVs l d m).1 = true → (mayVs l d' m').1 = true ∧ (mayVs l d' m').2 = (mayVs l d m).2 + (m' - m) ∧ (mayVs l d m).2 ≤ m)
    (fun k n s l ks ih d m d' m' hd hm h => by
      rw [mayV] at h ⊢
      split at h
      · cases h
      · rename_i h1
        split at h
        · rename_i hk
          rw [if_neg (by omega), if_pos hk]
          have h2 := ih (d + 1) (m - 1) (d' + 1) (m' - 1) (by omega) (by omega) h
          rw [mayV, if_neg h1, if_pos hk]
          exact ⟨h2.1, by rw [h2.2.1]; omega, by omega⟩
        · cases h)
    (fun d m d' m' _ _ _ => by rw [mayVs, mayVs]; exact ⟨rfl, by simp; omega, Int.le_refl _⟩)
    (fun v t hv ht d m d' m' hd hm h => by
      rw [mayVs] at h
      split at h
      · rename_i h1
        obtain ⟨h2, h3, h4⟩ := hv d m d' m' hd hm h1
        obtain ⟨h5, h6, h7⟩ := ht d (mayV v d m).2 d' (mayV v d' m').2 hd (by omega) h
        rw [mayVs, if_pos h2, mayVs, if_pos h1]
        exact ⟨h5, by rw [h6, h3]; omega, by omega⟩
      · cases h) v
theorem mays_items : ∀ (l : List Vl) (d m : Int), 1 ≤ d → m ≤ 20000 → (mayVs l d m).1 = true → ∀ x ∈ l, checkV x = true
  | [], _, _, _, _, _ => fun x hx => by cases hx
  | v :: t, d, m, hd, hm, h => fun x hx => by
    rw [mayVs] at h
    split at h
    · rename_i h1
      obtain ⟨h2, -, -⟩ := may_mono v d m 1 20000 hd hm h1
      obtain ⟨-, -, h4⟩ := may_mono v d m d m (Int.le_refl _) (Int.le_refl _) h1
      rcases List.mem_cons.1 hx with rfl | hx
      · exact h2
      · exact mays_items t d _ hd (by omega) h x hx
    · cases h
theorem check_items {k n : Int} {s : ByteArray} {l : List Vl} {ks : List ByteArray} (h : checkV (.mk k n s l ks) = true) : ∀ x ∈ l, checkV x = true := by
  unfold checkV at h
  rw [mayV] at h
  split at h
  · cases h
  · split at h
    · exact mays_items l _ _ (by decide) (by decide) h
    · cases h
end Go.Proofs.YthknljeffpbbmaaGreatDoor
