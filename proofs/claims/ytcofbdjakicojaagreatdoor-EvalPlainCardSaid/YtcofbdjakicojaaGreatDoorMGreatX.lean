/-
  The walks of value.may and Check.
  Values of the language that came in.
  Named values, and places, that came in.
  A call that came in as an argument.
  Plain law: what may be is small. No program in sight.
  What lies in a value that may be, may be.
  The walk of value.Truth, for all small values.
  The walk of value.Texts: the texts of a list of texts.
  The walks of the reference's Great and Wide: they say yes or no; no: not more than twelve, no long names.
  The walk of the reference's Same, at two values that are alike: yes.
  The walks of the reference's many, deep, keys, node, nodes and Check at a value that may be: yes.
  The walks of the document's many and deep at any value: their counts.
  The walks of the document's count, long and Great at a value that may be: no: at most sixty values, no long texts.
-/
import Derived.Deep.DeepCutAuto
import Derived.Deep.CutBlock
import Derived.StillTailTactics
import Derived.SizedLaws
import Derived.Test.YtcofbdjakicojaaGreatDoorMSix
import Derived.Test.YtcofbdjakicojaaGreatDoorMHeldSkip
namespace Go.Proofs.YtcofbdjakicojaaGreatDoor
open Go Go.RowKit
open List renaming getElem_toArray → lgA, getElem_cons_succ → lgB, getElem_cons_zero → lgC, setIfInBounds_toArray → laA, set_cons_zero → lsA, set_cons_succ → lsB, mem_of_getElem? → lgM, getElem?_eq_getElem → lgE, length_map → lnM, mem_cons_self → lmS, mem_cons_of_mem → lmO, length_append → lnA, take_add_one → ltA, take_of_length_le → ltL, length_take → lnT
open Nat renaming le_refl → nlr, lt_of_lt_of_le → nll, le_trans → nlt, zero_le → nlz
open Go.Lib renaming hid → Lq7, toList_data → Lq8
open Go.Act renaming put → aP
set_option maxRecDepth 100000
set_option maxHeartbeats 16000000
def PMay (r : Bool × Int) (lb : Nat) (w : World) (e : Ending) (w' : World) : Prop := e = .returned (.bool r.1) ∧ w.grownBy w' (some lb) ∧ w'.heap[lb]? = some (.cells #[.int .i64 r.2] 3 (0, 0))
mutual
def smallV : Vl → Prop
 | .mk _ n s l ks => (s.size ≤ 9223372036854775807 ∧ inR n = true) ∧ l.length ≤ 140737488355328 ∧ ks.length ≤ 140737488355328 ∧ (∀ s ∈ ks, s.size ≤ 9223372036854775807) ∧ smallVs l
def smallVs : List Vl → Prop
 | [] => True
 | v :: t => smallV v ∧ smallVs t
end
theorem smallVs_mem : ∀ {l : List Vl} {x : Vl}, smallVs l → x ∈ l → smallV x
 | _ :: _, _, h, .head _ => h.1
 | _ :: _, _, h, .tail _ hm => smallVs_mem h.2 hm
def MayC (v : Vl) : Prop := ∀ (F : Nat → Prop) (d m : Int) (lb : Nat) (a1 : Option Addr) (c1 : Nat) (a2 : Option Addr) (c2 : Nat) (w : World), (∀ b, F b → b ≠ lb) → 1 ≤ d → d ≤ 61 → 0 ≤ m → m ≤ 20000 → w.heap[lb]? = some (.cells #[.int .i64 m] 3 (0, 0)) →
 Ac F w a1 (valsD v.items) → Ac F w a2 (Aq v.keys) → Calls Tryz.prog 147 #[vCells v.kind v.num v.str a1 v.items.length c1 a2 v.keys.length c2, .int .i64 d, .pointer (some ⟨lb, 0, none⟩)] w (PMay (mayV v d m) lb w)
def PMay1 (r : Bool × Int) (lb : Nat) (w : World) (e : Ending) (w' : World) : Prop := e = .returned (.bool (!r.1)) ∧ w.grownBy w' (some lb) ∧ w'.heap[lb]? = some (.cells #[.int .i64 r.2] 3 (0, 0))
theorem may1_any (v : Vl) (hv : MayC v) (F : Nat → Prop) (d m : Int) (lb bd bt : Nat) (a1 : Option Addr) (c1 : Nat) (a2 : Option Addr) (c2 : Nat) (w : World) (hF : ∀ b, F b → b ≠ lb) (hd0 : 1 ≤ d) (hd1 : d ≤ 60) (hm0 : 0 ≤ m) (hm1 : m ≤ 20000)
  (hl : w.heap[lb]? = some (.cells #[.int .i64 m] 3 (0, 0))) (hd : w.heap[bd]? = some (.cells #[.int .i64 d] 3 (0, 0))) (ht : w.heap[bt]? = some (.cells #[.pointer (some ⟨lb, 0, none⟩)] 184 (0, 0)))
  (hr1 : Ac F w a1 (valsD v.items)) (hr2 : Ac F w a2 (Aq v.keys)) :
  Calls Tryz.prog 169 #[vCells v.kind v.num v.str a1 v.items.length c1 a2 v.keys.length c2, .pointer (some ⟨bd, 0, none⟩), .pointer (some ⟨bt, 0, none⟩)] w (PMay1 (mayV v (d + 1) m) lb w) := by
 obtain ⟨d0, d1⟩ := one_facts hd;obtain ⟨p0, p1⟩ := one_facts ht;have aF : Below w.heap.size w (w.alloc (.cells #[.int .i64 v.kind, .int .i64 v.num, .string v.str, .slice a1 v.items.length c1, .slice a2 v.keys.length c2] 31)) := (Below.refl _ w).alloc (nlr _) _;have Hc := Lq7 (hv F (d + 1) m lb a1 c1 a2 c2 _ hF (by omega) (by omega) hm0 hm1 ((aF.block _ (Array.getElem?_eq_some_iff.1 hl).1).trans hl) (hr1.below aF) (hr2.below aF));have aG := Lq7 aF;clear hl hd ht hr1 hr2 aF hv;unfold vCells at Hc ⊢;go_enter Tryz.func169, Tryz.ntmps169;go_wp2_with fail;refine Hc.out.mono ?_;rintro e w1 ⟨rfl, hg, hl⟩;have HG := Lq7 (And.intro (grownBy_trans (grownBy_below aG.out) hg) hl);clear hg hl;go_wp2_with fail;go_ret;exact ⟨rfl, HG.out.1, HG.out.2⟩
structure MayW (k n : Int) (s : ByteArray) (a1 : Option Addr) (l1 c1 : Nat) (a2 : Option Addr) (l2 c2 : Nat) (d m : Int) (lb : Nat) (w W : World) : Prop where
 size : w.heap.size + 3 ≤ W.heap.size
 lbl : lb < w.heap.size
 left : W.heap[lb]? = some (.cells #[.int .i64 m] 3 (0, 0))
 a : W.heap[w.heap.size]? = some (.cells #[.int .i64 k, .int .i64 n, .string s, .slice a1 l1 c1, .slice a2 l2 c2] 31 (0, 0))
 b : W.heap[w.heap.size + 1]? = some (.cells #[.int .i64 d] 3 (0, 0))
 c : W.heap[w.heap.size + 1 + 1]? = some (.cells #[.pointer (some ⟨lb, 0, none⟩)] 184 (0, 0))
 grown : w.grownBy W (some lb)
theorem mayW {k n : Int} {s : ByteArray} {a1 : Option Addr} {l1 c1 : Nat} {a2 : Option Addr} {l2 c2 : Nat} {d m m' : Int} {lb : Nat} {w : World} (hb : w.heap[lb]? = some (.cells #[.int .i64 m] 3 (0, 0))) :
  MayW k n s a1 l1 c1 a2 l2 c2 d m' lb w ((((w.setCell ⟨lb, 0, none⟩ (.int .i64 m')).alloc (.cells #[.int .i64 k, .int .i64 n, .string s, .slice a1 l1 c1, .slice a2 l2 c2] 31)).alloc (.cells #[.int .i64 d] 3)).alloc (.cells #[.pointer (some ⟨lb, 0, none⟩)] 184)) := by
 have aQ := (Array.getElem?_eq_some_iff.1 hb).1;have hsz : (w.setCell ⟨lb, 0, none⟩ (.int .i64 m')).heap.size = w.heap.size := (by simp);have h0 := set_same hb 0 (.int .i64 m');generalize hw1 : w.setCell ⟨lb, 0, none⟩ (.int .i64 m') = w1 at hsz h0 ⊢;have hg : w.grownBy w1 (some lb) := (by rw [← hw1]; exact grownBy_set (grownBy_refl _ _) 0 _);have hs : w.heap.size = w1.heap.size := hsz.symm;refine ⟨by simp [hs], aQ, ?_, ?_, ?_, ?_, ?_⟩
 ·rw [Below.heap_alloc _ _ _ (by simp; omega), Below.heap_alloc _ _ _ (by simp; omega), Below.heap_alloc _ _ _ (by omega)]; exact h0
 ·rw [hs, Below.heap_alloc _ _ _ (by simp; omega), Below.heap_alloc _ _ _ (by simp)]; exact heap_alloc_new w1 _
 ·rw [hs, Below.heap_alloc _ _ _ (by simp)];have := heap_alloc_new (w1.alloc (.cells #[.int .i64 k, .int .i64 n, .string s, .slice a1 l1 c1, .slice a2 l2 c2] 31)) (.cells #[.int .i64 d] 3)
  simpa using this
 ·rw [hs];have := heap_alloc_new ((w1.alloc (.cells #[.int .i64 k, .int .i64 n, .string s, .slice a1 l1 c1, .slice a2 l2 c2] 31)).alloc (.cells #[.int .i64 d] 3)) (.cells #[.pointer (some ⟨lb, 0, none⟩)] 184)
  simpa using this
 ·exact C9 (C9 (C9 hg _) _) _
theorem MayW.below {k n : Int} {s : ByteArray} {a1 : Option Addr} {l1 c1 : Nat} {a2 : Option Addr} {l2 c2 : Nat} {d m : Int} {lb : Nat} {w W W' : World} (h : MayW k n s a1 l1 c1 a2 l2 c2 d m lb w W) (hb : Below W.heap.size W W') : MayW k n s a1 l1 c1 a2 l2 c2 d m lb w W' := by
 have hs := h.size;have hl := h.lbl;exact ⟨nlt hs hb.size, hl, (hb.block _ (by omega)).trans h.left, (hb.block _ (by omega)).trans h.a, (hb.block _ (by omega)).trans h.b, (hb.block _ (by omega)).trans h.c, grownBy_trans h.grown (grownBy_below hb)⟩
theorem Cz {α : Type} (l : List α) : l.isEmpty = (((0 : Nat) : Int) == (l.length : Int)) := by cases l <;> simp; omega
theorem Fo (s : ByteArray) : s.toList.isEmpty = ((⟨#[]⟩ : ByteArray).toList == s.toList) := by
 rw [Lq8, Lq8];cases s.data.toList <;> rfl
theorem str_self (s : ByteArray) : (s.toList == s.toList) = true := beq_self_eq_true _
theorem nodeOk0 (n : Int) (s : ByteArray) (l : List Vl) (ks : List ByteArray) : nodeOk 0 n s l ks = (true && ((0 : Int) == n) && ((⟨#[]⟩ : ByteArray).toList == s.toList) && (((0 : Nat) : Int) == (l.length : Int)) && (((0 : Nat) : Int) == (ks.length : Int))) := by
 rw [← Cz, ← Cz, ← Fo];unfold nodeOk;rw [if_pos rfl, Bool.true_and, Bool.beq_comm (a := n)]
theorem Ta (n : Int) (s : ByteArray) (l : List Vl) (ks : List ByteArray) : nodeOk 1 n s l ks = ((n == 0 || n == 1) && (n == n) && ((⟨#[]⟩ : ByteArray).toList == s.toList) && (((0 : Nat) : Int) == (l.length : Int)) && (((0 : Nat) : Int) == (ks.length : Int))) := by
 rw [← Cz, ← Cz, ← Fo];unfold nodeOk;rw [if_neg (by decide), if_pos rfl, beq_self_eq_true, Bool.and_true]
theorem nodeOk2 (n : Int) (s : ByteArray) (l : List Vl) (ks : List ByteArray) (h : inR n = true) : nodeOk 2 n s l ks = (true && (n == n) && ((⟨#[]⟩ : ByteArray).toList == s.toList) && (((0 : Nat) : Int) == (l.length : Int)) && (((0 : Nat) : Int) == (ks.length : Int))) := by
 rw [← Cz, ← Cz, ← Fo];unfold nodeOk;rw [if_neg (by decide), if_neg (by decide), if_pos rfl, beq_self_eq_true, Bool.true_and, h]
theorem nodeOk3 (n : Int) (s : ByteArray) (l : List Vl) (ks : List ByteArray) : nodeOk 3 n s l ks = (decide (s.size ≤ 65536) && ((0 : Int) == n) && (s.toList == s.toList) && (((0 : Nat) : Int) == (l.length : Int)) && (((0 : Nat) : Int) == (ks.length : Int))) := by
 rw [← Cz, ← Cz, str_self];unfold nodeOk;rw [if_neg (by decide), if_neg (by decide), if_neg (by decide), if_pos rfl, Bool.and_true, Bool.beq_comm (a := n), Bool.and_comm ((0 : Int) == n)]
theorem nodeOk4 (n : Int) (s : ByteArray) (l : List Vl) (ks : List ByteArray) : nodeOk 4 n s l ks = (decide (l.length ≤ 1000) && ((0 : Int) == n) && ((⟨#[]⟩ : ByteArray).toList == s.toList) && ((l.length : Int) == (l.length : Int)) && (((0 : Nat) : Int) == (ks.length : Int))) := by
 rw [← Cz, ← Fo, beq_self_eq_true];unfold nodeOk;rw [if_neg (by decide), if_neg (by decide), if_neg (by decide), if_neg (by decide), if_pos rfl, Bool.and_true, Bool.beq_comm (a := n)];cases ((0 : Int) == n) <;> cases s.toList.isEmpty <;> cases decide (l.length ≤ 1000) <;> rfl
theorem Tb (n : Int) (s : ByteArray) (l : List Vl) (ks : List ByteArray) : nodeOk 5 n s l ks = (((l.length == ks.length) && risesL ks) && ((0 : Int) == n) && ((⟨#[]⟩ : ByteArray).toList == s.toList) && ((l.length : Int) == (l.length : Int)) && ((ks.length : Int) == (ks.length : Int))) := by
 rw [← Fo, beq_self_eq_true, beq_self_eq_true];unfold nodeOk;rw [if_neg (by decide), if_neg (by decide), if_neg (by decide), if_neg (by decide), if_neg (by decide), if_pos rfl, Bool.and_true, Bool.and_true, Bool.beq_comm (a := n)];cases ((0 : Int) == n) <;> cases s.toList.isEmpty <;> cases (l.length == ks.length) <;> cases risesL ks <;> rfl
theorem nodeOkx {k : Int} (n : Int) (s : ByteArray) (l : List Vl) (ks : List ByteArray) (h : k ≠ 0 ∧ k ≠ 1 ∧ k ≠ 2 ∧ k ≠ 3 ∧ k ≠ 4 ∧ k ≠ 5) : nodeOk k n s l ks = false := by
 unfold nodeOk;rw [if_neg h.1, if_neg h.2.1, if_neg h.2.2.1, if_neg h.2.2.2.1, if_neg h.2.2.2.2.1, if_neg h.2.2.2.2.2]
theorem may_node (k n : Int) (s : ByteArray) (l : List Vl) (ks : List ByteArray) (F : Nat → Prop) (d m : Int) (lb : Nat) (a1 : Option Addr) (c1 : Nat) (a2 : Option Addr) (c2 : Nat) (w : World)
  (hd0 : 1 ≤ d) (hd1 : d ≤ 61) (hm0 : 0 ≤ m) (hm1 : m ≤ 20000) (hb : w.heap[lb]? = some (.cells #[.int .i64 m] 3 (0, 0))) (hr1 : Ac F w a1 (valsD l)) (hr2 : Ac F w a2 (Aq ks)) (hF : ∀ b, F b → b ≠ lb)
  (hll : l.length ≤ 140737488355328) (hkl : ks.length ≤ 140737488355328) (hks : ∀ s ∈ ks, s.size ≤ 9223372036854775807) (hsl : s.size ≤ 9223372036854775807) (hit : ∀ x ∈ l, MayC x) (hin : inR n = true) :
  Calls Tryz.prog 147 #[vCells k n s a1 l.length c1 a2 ks.length c2, .int .i64 d, .pointer (some ⟨lb, 0, none⟩)] w (PMay (mayV (.mk k n s l ks) d m) lb w) := by
 obtain ⟨aQ, hc, hf⟩ := Ao hb;have q0 := hc 0;have z0 := hf 0;simp at q0;have Hb := Lq7 hb;have Hks := Lq7 hks;have HF := Lq7 hF;have Hit := Lq7 hit;have HIn := Lq7 hin;clear hc hf hb hks hF hit hin;have g1 : lb < w.heap.size + 1 := (by omega);have g2 : lb < w.heap.size + 1 + 1 := (by omega);have g3 : lb < w.heap.size + 1 + 1 + 1 := (by omega);unfold vCells;go_enter Tryz.func147, Tryz.ntmps147
 go_upto_region 2 with fail
 have HW := Lq7 (mayW (k := k) (n := n) (s := s) (a1 := a1) (l1 := l.length) (c1 := c1) (a2 := a2) (l2 := ks.length) (c2 := c2) (d := d) (m' := m - 1) Hb.out);generalize hW : World.alloc _ _ = W at HW ⊢;clear hW q0 z0 g1 g2 g3 aQ;have Hr1 := Lq7 hr1;have Hr2 := Lq7 hr2;clear hr1 hr2;by_cases hdeep : d > 60
 ·have Hr : Hid (mayV (.mk k n s l ks) d m = (false, m - 1)) := Lq7 (by rw [mayV, if_pos (.inl (by omega))]);obtain ⟨b0, b1⟩ := one_facts HW.out.b;go_wp2;go_ret;rw [Hr.out];exact ⟨rfl, HW.out.grown, HW.out.left⟩
 ·by_cases hneg : m - 1 < 0
  ·have Hr : Hid (mayV (.mk k n s l ks) d m = (false, m - 1)) := Lq7 (by rw [mayV, if_pos (.inr hneg)]);obtain ⟨b0, b1⟩ := one_facts HW.out.b;obtain ⟨p0, p1⟩ := one_facts HW.out.c;obtain ⟨r0, r1⟩ := one_facts HW.out.left;go_wp2;go_ret;rw [Hr.out];exact ⟨rfl, HW.out.grown, HW.out.left⟩
  ·have Hr : Hid (mayV (.mk k n s l ks) d m = if nodeOk k n s l ks = true then mayVs l (d + 1) (m - 1) else (false, m - 1)) := Lq7 (by rw [mayV, if_neg (by omega)]);obtain ⟨b0, b1⟩ := one_facts HW.out.b;obtain ⟨p0, p1⟩ := one_facts HW.out.c;obtain ⟨r0, r1⟩ := one_facts HW.out.left;obtain ⟨t0, t1, t2, t3, t4, t5, t6, t7, t8, t9, aU⟩ := five_facts HW.out.a;have HU := Lq7 ((Below.refl _ W).alloc (nlr _) (.cells #[.int .i64 k, .int .i64 0, .string ⟨#[]⟩, .slice none 0 0, .slice none 0 0] 31))
   go_upto_block 0 with fail
   clear b0 b1 p0 p1 r0 r1
   go_cut [8] from 27 (fun rv wc => ∃ (rt : Bool) (bn : Int) (bs : ByteArray) (a3 : Option Addr) (l3 c3 : Nat) (a4 : Option Addr) (l4 c4 : Nat), rv = .bool rt ∧ Hid (wc.heap[W.heap.size]? = some (.cells #[.int .i64 k, .int .i64 bn, .string bs, .slice a3 l3 c3, .slice a4 l4 c4] 31 (0, 0)) ∧ Below W.heap.size W wc ∧
    nodeOk k n s l ks = (rt && (bn == n) && (bs.toList == s.toList) && ((l3 : Int) == (l.length : Int)) && ((l4 : Int) == (ks.length : Int)))))
   case first =>
    have HA : Hid (True ∧ ∀ W', Below W.heap.size W W' → W'.heap[w.heap.size]? = some (.cells #[.int .i64 k, .int .i64 n, .string s, .slice a1 l.length c1, .slice a2 ks.length c2] 31 (0, 0))) := Lq7 ⟨trivial, fun W' hb => (hb.block _ (by have := HW.out.size; omega)).trans HW.out.a⟩;have HS2 : Hid (∀ W', Below W.heap.size W W' → Ax W' a2 ks) := Lq7 (fun W' hb => ((Hr2.out.mono (w' := W') (G := fun _ => True) fun b hF hl => ⟨trivial, by have := HW.out.grown.size; have := hb.size; omega, (hb.block b (by have := HW.out.grown.size; omega)).trans (HW.out.grown.block b hl (fun e => by cases e; exact HF.out _ hF rfl))⟩).strs));by_cases h0 : k = 0
    ·subst h0;go_wp2_with fail;go_meet
     case rel => exact ⟨true, 0, ⟨#[]⟩, none, 0, 0, none, 0, 0, rfl, Lq7 ⟨heap_alloc_new W _, HU.out, nodeOk0 n s l ks⟩⟩
    ·
     by_cases h1 : k = 1
     ·subst h1;cases hn : (n == 0)
      ·go_wp2_with fail;refine Ae (.s 0 (.s 1 (.s 2 (.s 3 (.s 4 (.s 5 (.s 6 (.s 7 (.s 8 (.s 9 (.s 10 (.h 11 (.s 12 .nil))))))))))))) 99 (fun W' => W'.heap[w.heap.size]? = some (.cells #[.int .i64 1, .int .i64 n, .string s, .slice a1 l.length c1, .slice a2 ks.length c2] 31 (0, 0))) (by kernel_rfl) (by kernel_rfl) (fun c a d v w h => by cases d <;> exact h) (HA.out.2 _ HU.out.drew) ?_
       refine Aa (.pointer (some ⟨w.heap.size, 1, none⟩)) rfl rfl (fun W' hS => ?_) ?_
       ·obtain ⟨s0, s1, s2, s3, s4, s5, s6, s7, s8, s9, aB⟩ := five_facts hS;clear hS;go_simp
       simp only [lgA, lgC, aP, laA, lsA, lsB];refine Aa (.int .i64 n) rfl rfl (fun W' hS => ?_) ?_
       ·obtain ⟨s0, s1, s2, s3, s4, s5, s6, s7, s8, s9, aB⟩ := five_facts hS;clear hS;go_simp
       simp only [lgA, lgB, lgC, aP, laA, lsA, lsB];refine Aa (.pointer (some ⟨w.heap.size, 1, none⟩)) rfl rfl (fun W' hS => ?_) ?_
       ·obtain ⟨s0, s1, s2, s3, s4, s5, s6, s7, s8, s9, aB⟩ := five_facts hS;clear hS;go_simp
       simp only [lgA, lgB, lgC, aP, laA, lsA, lsB];refine Aa (.int .i64 n) rfl rfl (fun W' hS => ?_) ?_
       ·obtain ⟨s0, s1, s2, s3, s4, s5, s6, s7, s8, s9, aB⟩ := five_facts hS;clear hS;go_simp
       simp only [lgA, lgB, lgC, aP, laA, lsA, lsB];refine Aa (.bool false) rfl rfl (fun W' hS => ?_) ?_
       ·obtain ⟨s0, s1, s2, s3, s4, s5, s6, s7, s8, s9, aB⟩ := five_facts hS;clear hS;go_simp
       simp only [lgA, lgB, lgC, aP, laA, lsA, lsB];refine Aa (.bool false) rfl rfl (fun W' hS => ?_) ?_
       ·obtain ⟨s0, s1, s2, s3, s4, s5, s6, s7, s8, s9, aB⟩ := five_facts hS;clear hS;go_simp
       simp only [lgA, lgB, lgC, aP, laA, lsA, lsB];refine Aa (.pointer (some ⟨w.heap.size, 1, none⟩)) rfl rfl (fun W' hS => ?_) ?_
       ·obtain ⟨s0, s1, s2, s3, s4, s5, s6, s7, s8, s9, aB⟩ := five_facts hS;clear hS;go_simp
       simp only [lgA, lgB, lgC, aP, laA, lsA, lsB];refine Aa (.int .i64 n) rfl rfl (fun W' hS => ?_) ?_
       ·obtain ⟨s0, s1, s2, s3, s4, s5, s6, s7, s8, s9, aB⟩ := five_facts hS;clear hS;go_simp
       simp only [lgA, lgB, lgC, aP, laA, lsA, lsB];refine Aa (.bool (n == 1)) rfl rfl (fun W' hS => ?_) ?_
       ·obtain ⟨s0, s1, s2, s3, s4, s5, s6, s7, s8, s9, aB⟩ := five_facts hS;clear hS;go_simp
       simp only [lgA, lgB, lgC, aP, laA, lsA, lsB];refine Aa (.bool (n == 1)) rfl rfl (fun W' hS => ?_) ?_
       ·obtain ⟨s0, s1, s2, s3, s4, s5, s6, s7, s8, s9, aB⟩ := five_facts hS;clear hS;go_simp
       simp only [lgA, lgB, lgC, aP, laA, lsA, lsB];refine Aa (.pointer (some ⟨W.heap.size, 1, none⟩)) rfl rfl (fun W' hS => ?_) ?_
       ·obtain ⟨s0, s1, s2, s3, s4, s5, s6, s7, s8, s9, aB⟩ := five_facts hS;clear hS;go_simp
       simp only [lgA, lgB, lgC, aP, laA, lsA, lsB];refine Ad rfl (fun Kx aC => ?_);go_wp2_with fail;refine aC _ _ (fun _ => HA.out.2 _ (by first | exact HU.out.drew | exact ((Below.refl _ W).alloc (nlr _) _).drew)) ?_;skip;refine Aa (.bool (n == 1)) rfl rfl (fun W' hS => ?_) ?_
       ·obtain ⟨s0, s1, s2, s3, s4, s5, s6, s7, s8, s9, aB⟩ := five_facts hS;clear hS;go_simp
       simp only [lgA, lgB, lgC, aP, laA, lsA, lsB];refine Ak ?_;go_wp2_with fail;go_meet
       case rel => exact ⟨(n == 1), n, ⟨#[]⟩, none, 0, 0, none, 0, 0, rfl, Lq7 ⟨heap_alloc_new W _, ((Below.refl _ W).alloc (nlr _) _).drew, (by have h := Ta n s l ks; rw [hn, Bool.false_or] at h; exact h)⟩⟩
      ·go_wp2_with fail;refine Ae (.s 0 (.s 1 (.s 2 (.s 3 (.s 4 (.s 5 (.s 6 (.s 7 (.s 8 (.s 9 (.s 10 (.h 11 (.s 12 .nil))))))))))))) 99 (fun W' => W'.heap[w.heap.size]? = some (.cells #[.int .i64 1, .int .i64 n, .string s, .slice a1 l.length c1, .slice a2 ks.length c2] 31 (0, 0))) (by kernel_rfl) (by kernel_rfl) (fun c a d v w h => by cases d <;> exact h) (HA.out.2 _ HU.out.drew) ?_
       refine Aa (.pointer (some ⟨w.heap.size, 1, none⟩)) rfl rfl (fun W' hS => ?_) ?_
       ·obtain ⟨s0, s1, s2, s3, s4, s5, s6, s7, s8, s9, aB⟩ := five_facts hS;clear hS;go_simp
       simp only [lgA, lgC, aP, laA, lsA, lsB];refine Aa (.int .i64 n) rfl rfl (fun W' hS => ?_) ?_
       ·obtain ⟨s0, s1, s2, s3, s4, s5, s6, s7, s8, s9, aB⟩ := five_facts hS;clear hS;go_simp
       simp only [lgA, lgB, lgC, aP, laA, lsA, lsB];refine Aa (.pointer (some ⟨w.heap.size, 1, none⟩)) rfl rfl (fun W' hS => ?_) ?_
       ·obtain ⟨s0, s1, s2, s3, s4, s5, s6, s7, s8, s9, aB⟩ := five_facts hS;clear hS;go_simp
       simp only [lgA, lgB, lgC, aP, laA, lsA, lsB];refine Aa (.int .i64 n) rfl rfl (fun W' hS => ?_) ?_
       ·obtain ⟨s0, s1, s2, s3, s4, s5, s6, s7, s8, s9, aB⟩ := five_facts hS;clear hS;go_simp
       simp only [lgA, lgB, lgC, aP, laA, lsA, lsB];refine Aa (.bool true) rfl rfl (fun W' hS => ?_) ?_
       ·obtain ⟨s0, s1, s2, s3, s4, s5, s6, s7, s8, s9, aB⟩ := five_facts hS;clear hS;go_simp
       simp only [lgA, lgB, lgC, aP, laA, lsA, lsB];refine Aa (.bool true) rfl rfl (fun W' hS => ?_) ?_
       ·obtain ⟨s0, s1, s2, s3, s4, s5, s6, s7, s8, s9, aB⟩ := five_facts hS;clear hS;go_simp
       simp only [lgA, lgB, lgC, aP, laA, lsA, lsB];refine Aj rfl rfl ?_;simp only [lgA, lgB, lgC, aP, laA, lsA, lsB];refine Aj rfl rfl ?_;simp only [lgA, lgB, lgC, aP, laA, lsA, lsB];refine Aj rfl rfl ?_;simp only [lgA, lgB, lgC, aP, laA, lsA, lsB];refine Aa (.bool true) rfl rfl (fun W' hS => ?_) ?_
       ·obtain ⟨s0, s1, s2, s3, s4, s5, s6, s7, s8, s9, aB⟩ := five_facts hS;clear hS;go_simp
       simp only [lgA, lgB, lgC, aP, laA, lsA, lsB];refine Aa (.pointer (some ⟨W.heap.size, 1, none⟩)) rfl rfl (fun W' hS => ?_) ?_
       ·obtain ⟨s0, s1, s2, s3, s4, s5, s6, s7, s8, s9, aB⟩ := five_facts hS;clear hS;go_simp
       simp only [lgA, lgB, lgC, aP, laA, lsA, lsB];refine Ad rfl (fun Kx aC => ?_);go_wp2_with fail;refine aC _ _ (fun _ => HA.out.2 _ (by first | exact HU.out.drew | exact ((Below.refl _ W).alloc (nlr _) _).drew)) ?_;skip;refine Aa (.bool true) rfl rfl (fun W' hS => ?_) ?_
       ·obtain ⟨s0, s1, s2, s3, s4, s5, s6, s7, s8, s9, aB⟩ := five_facts hS;clear hS;go_simp
       simp only [lgA, lgB, lgC, aP, laA, lsA, lsB];refine Ak ?_;go_wp2_with fail;go_meet
       case rel => exact ⟨true, n, ⟨#[]⟩, none, 0, 0, none, 0, 0, rfl, Lq7 ⟨heap_alloc_new W _, ((Below.refl _ W).alloc (nlr _) _).drew, (by have h := Ta n s l ks; rw [hn, Bool.true_or] at h; exact h)⟩⟩
     ·
      by_cases h2 : k = 2
      ·subst h2;go_wp2_with fail;go_meet
       case rel => exact ⟨true, n, ⟨#[]⟩, none, 0, 0, none, 0, 0, rfl, Lq7 ⟨heap_alloc_new W _, (Below.refl _ W).alloc (nlr _) _, nodeOk2 n s l ks HIn.out⟩⟩
      ·
       by_cases h3 : k = 3
       ·subst h3;go_wp2_with fail;refine Ae (.s 0 (.s 1 (.s 2 (.s 3 (.s 4 (.s 5 (.s 6 (.h 7 (.s 8 .nil))))))))) 99 (fun W' => W'.heap[w.heap.size]? = some (.cells #[.int .i64 3, .int .i64 n, .string s, .slice a1 l.length c1, .slice a2 ks.length c2] 31 (0, 0))) (by kernel_rfl) (by kernel_rfl) (fun c a d v w h => by cases d <;> exact h) (HA.out.2 _ HU.out.drew) ?_
        refine Aa (.pointer (some ⟨w.heap.size, 2, none⟩)) rfl rfl (fun W' hS => ?_) ?_
        ·obtain ⟨s0, s1, s2, s3, s4, s5, s6, s7, s8, s9, aB⟩ := five_facts hS;clear hS;go_simp
        simp only [lgA, lgC, aP, laA, lsA, lsB];refine Aa (.string s) rfl rfl (fun W' hS => ?_) ?_
        ·obtain ⟨s0, s1, s2, s3, s4, s5, s6, s7, s8, s9, aB⟩ := five_facts hS;clear hS;go_simp
        simp only [lgA, lgB, lgC, aP, laA, lsA, lsB];refine Aa (.pointer (some ⟨w.heap.size, 2, none⟩)) rfl rfl (fun W' hS => ?_) ?_
        ·obtain ⟨s0, s1, s2, s3, s4, s5, s6, s7, s8, s9, aB⟩ := five_facts hS;clear hS;go_simp
        simp only [lgA, lgB, lgC, aP, laA, lsA, lsB];refine Aa (.string s) rfl rfl (fun W' hS => ?_) ?_
        ·obtain ⟨s0, s1, s2, s3, s4, s5, s6, s7, s8, s9, aB⟩ := five_facts hS;clear hS;go_simp
        simp only [lgA, lgB, lgC, aP, laA, lsA, lsB];refine Aa (.int .i64 (s.size : Int)) rfl rfl (fun W' hS => ?_) ?_
        ·obtain ⟨s0, s1, s2, s3, s4, s5, s6, s7, s8, s9, aB⟩ := five_facts hS;clear hS;go_simp
        simp only [lgA, lgB, lgC, aP, laA, lsA, lsB];refine Aa (.bool (decide ((s.size : Int) ≤ 65536))) rfl rfl (fun W' hS => ?_) ?_
        ·obtain ⟨s0, s1, s2, s3, s4, s5, s6, s7, s8, s9, aB⟩ := five_facts hS;clear hS;go_simp
        simp only [lgA, lgB, lgC, aP, laA, lsA, lsB];refine Aa (.pointer (some ⟨W.heap.size, 2, none⟩)) rfl rfl (fun W' hS => ?_) ?_
        ·obtain ⟨s0, s1, s2, s3, s4, s5, s6, s7, s8, s9, aB⟩ := five_facts hS;clear hS;go_simp
        simp only [lgA, lgB, lgC, aP, laA, lsA, lsB];refine Ad rfl (fun Kx aC => ?_);go_wp2_with fail;refine aC _ _ (fun _ => HA.out.2 _ (by first | exact HU.out.drew | exact ((Below.refl _ W).alloc (nlr _) _).drew)) ?_;skip;refine Aa (.bool (decide ((s.size : Int) ≤ 65536))) rfl rfl (fun W' hS => ?_) ?_
        ·obtain ⟨s0, s1, s2, s3, s4, s5, s6, s7, s8, s9, aB⟩ := five_facts hS;clear hS;go_simp
        simp only [lgA, lgB, lgC, aP, laA, lsA, lsB];refine Ak ?_;go_wp2_with fail;go_meet
        case rel => exact ⟨(decide ((s.size : Int) ≤ 65536)), 0, s, none, 0, 0, none, 0, 0, rfl, Lq7 ⟨heap_alloc_new W _, ((Below.refl _ W).alloc (nlr _) _).drew, (by have h := nodeOk3 n s l ks; rw [show decide (s.size ≤ 65536) = decide ((s.size : Int) ≤ 65536) from decide_eq_decide.2 (by omega)] at h; exact h)⟩⟩
       ·
        by_cases h4 : k = 4
        ·subst h4;go_wp2_with fail;refine Ae (.s 0 (.s 1 (.s 2 (.s 3 (.s 4 (.s 5 (.s 6 (.h 7 (.s 8 .nil))))))))) 99 (fun W' => W'.heap[w.heap.size]? = some (.cells #[.int .i64 4, .int .i64 n, .string s, .slice a1 l.length c1, .slice a2 ks.length c2] 31 (0, 0))) (by kernel_rfl) (by kernel_rfl) (fun c a d v w h => by cases d <;> exact h) (HA.out.2 _ HU.out.drew) ?_
         refine Aa (.pointer (some ⟨w.heap.size, 3, none⟩)) rfl rfl (fun W' hS => ?_) ?_
         ·obtain ⟨s0, s1, s2, s3, s4, s5, s6, s7, s8, s9, aB⟩ := five_facts hS;clear hS;go_simp
         simp only [lgA, lgC, aP, laA, lsA, lsB];refine Aa (.slice a1 l.length c1) rfl rfl (fun W' hS => ?_) ?_
         ·obtain ⟨s0, s1, s2, s3, s4, s5, s6, s7, s8, s9, aB⟩ := five_facts hS;clear hS;go_simp
         simp only [lgA, lgB, lgC, aP, laA, lsA, lsB];refine Aa (.pointer (some ⟨w.heap.size, 3, none⟩)) rfl rfl (fun W' hS => ?_) ?_
         ·obtain ⟨s0, s1, s2, s3, s4, s5, s6, s7, s8, s9, aB⟩ := five_facts hS;clear hS;go_simp
         simp only [lgA, lgB, lgC, aP, laA, lsA, lsB];refine Aa (.slice a1 l.length c1) rfl rfl (fun W' hS => ?_) ?_
         ·obtain ⟨s0, s1, s2, s3, s4, s5, s6, s7, s8, s9, aB⟩ := five_facts hS;clear hS;go_simp
         simp only [lgA, lgB, lgC, aP, laA, lsA, lsB];refine Aa (.int .i64 (l.length : Int)) rfl rfl (fun W' hS => ?_) ?_
         ·obtain ⟨s0, s1, s2, s3, s4, s5, s6, s7, s8, s9, aB⟩ := five_facts hS;clear hS;go_simp
         simp only [lgA, lgB, lgC, aP, laA, lsA, lsB];refine Aa (.bool (decide ((l.length : Int) ≤ 1000))) rfl rfl (fun W' hS => ?_) ?_
         ·obtain ⟨s0, s1, s2, s3, s4, s5, s6, s7, s8, s9, aB⟩ := five_facts hS;clear hS;go_simp
         simp only [lgA, lgB, lgC, aP, laA, lsA, lsB];refine Aa (.pointer (some ⟨W.heap.size, 3, none⟩)) rfl rfl (fun W' hS => ?_) ?_
         ·obtain ⟨s0, s1, s2, s3, s4, s5, s6, s7, s8, s9, aB⟩ := five_facts hS;clear hS;go_simp
         simp only [lgA, lgB, lgC, aP, laA, lsA, lsB];refine Ad rfl (fun Kx aC => ?_);go_wp2_with fail;refine aC _ _ (fun _ => HA.out.2 _ (by first | exact HU.out.drew | exact ((Below.refl _ W).alloc (nlr _) _).drew)) ?_;skip;refine Aa (.bool (decide ((l.length : Int) ≤ 1000))) rfl rfl (fun W' hS => ?_) ?_
         ·obtain ⟨s0, s1, s2, s3, s4, s5, s6, s7, s8, s9, aB⟩ := five_facts hS;clear hS;go_simp
         simp only [lgA, lgB, lgC, aP, laA, lsA, lsB];refine Ak ?_;go_wp2_with fail;go_meet
         case rel => exact ⟨(decide ((l.length : Int) ≤ 1000)), 0, ⟨#[]⟩, a1, l.length, c1, none, 0, 0, rfl, Lq7 ⟨heap_alloc_new W _, ((Below.refl _ W).alloc (nlr _) _).drew, (by have h := nodeOk4 n s l ks; rw [show decide (l.length ≤ 1000) = decide ((l.length : Int) ≤ 1000) from decide_eq_decide.2 (by omega)] at h; exact h)⟩⟩
        ·
         by_cases h5 : k = 5
         ·subst h5;by_cases hle : l.length = ks.length
          ·have He : Hid ((l.length == ks.length) = true) := Lq7 (by simp [hle]);have aV := Lq7 hle;simp only [hle] at HA t4;clear hle;go_wp2_with fail;refine Ae (.s 0 (.s 1 (.s 2 (.s 3 (.s 4 (.s 5 (.s 6 (.s 7 (.s 8 (.s 9 (.s 10 (.s 11 (.s 12 (.s 13 (.s 16 (.h 14 (.s 15 (.h 17 (.s 18 (.h 19 (.s 20 .nil))))))))))))))))))))) 99 (fun W' => W'.heap[w.heap.size]? = some (.cells #[.int .i64 5, .int .i64 n, .string s, .slice a1 ks.length c1, .slice a2 ks.length c2] 31 (0, 0))) (by kernel_rfl) (by kernel_rfl) (fun c a d v w h => by cases d <;> exact h) (HA.out.2 _ HU.out.drew) ?_
           refine Aa (.pointer (some ⟨w.heap.size, 3, none⟩)) rfl rfl (fun W' hS => ?_) ?_
           ·obtain ⟨s0, s1, s2, s3, s4, s5, s6, s7, s8, s9, aB⟩ := five_facts hS;clear hS;go_simp
           simp only [lgA, lgC, aP, laA, lsA, lsB];refine Aa (.slice a1 ks.length c1) rfl rfl (fun W' hS => ?_) ?_
           ·obtain ⟨s0, s1, s2, s3, s4, s5, s6, s7, s8, s9, aB⟩ := five_facts hS;clear hS;go_simp
           simp only [lgA, lgB, lgC, aP, laA, lsA, lsB];refine Aa (.pointer (some ⟨w.heap.size, 4, none⟩)) rfl rfl (fun W' hS => ?_) ?_
           ·obtain ⟨s0, s1, s2, s3, s4, s5, s6, s7, s8, s9, aB⟩ := five_facts hS;clear hS;go_simp
           simp only [lgA, lgB, lgC, aP, laA, lsA, lsB];refine Aa (.slice a2 ks.length c2) rfl rfl (fun W' hS => ?_) ?_
           ·obtain ⟨s0, s1, s2, s3, s4, s5, s6, s7, s8, s9, aB⟩ := five_facts hS;clear hS;go_simp
           simp only [lgA, lgB, lgC, aP, laA, lsA, lsB];refine Aa (.pointer (some ⟨w.heap.size, 3, none⟩)) rfl rfl (fun W' hS => ?_) ?_
           ·obtain ⟨s0, s1, s2, s3, s4, s5, s6, s7, s8, s9, aB⟩ := five_facts hS;clear hS;go_simp
           simp only [lgA, lgB, lgC, aP, laA, lsA, lsB];refine Aa (.slice a1 ks.length c1) rfl rfl (fun W' hS => ?_) ?_
           ·obtain ⟨s0, s1, s2, s3, s4, s5, s6, s7, s8, s9, aB⟩ := five_facts hS;clear hS;go_simp
           simp only [lgA, lgB, lgC, aP, laA, lsA, lsB];refine Aa (.int .i64 ks.length) rfl rfl (fun W' hS => ?_) ?_
           ·obtain ⟨s0, s1, s2, s3, s4, s5, s6, s7, s8, s9, aB⟩ := five_facts hS;clear hS;go_simp
           simp only [lgA, lgB, lgC, aP, laA, lsA, lsB];refine Aa (.pointer (some ⟨w.heap.size, 4, none⟩)) rfl rfl (fun W' hS => ?_) ?_
           ·obtain ⟨s0, s1, s2, s3, s4, s5, s6, s7, s8, s9, aB⟩ := five_facts hS;clear hS;go_simp
           simp only [lgA, lgB, lgC, aP, laA, lsA, lsB];refine Aa (.slice a2 ks.length c2) rfl rfl (fun W' hS => ?_) ?_
           ·obtain ⟨s0, s1, s2, s3, s4, s5, s6, s7, s8, s9, aB⟩ := five_facts hS;clear hS;go_simp
           simp only [lgA, lgB, lgC, aP, laA, lsA, lsB];refine Aa (.int .i64 ks.length) rfl rfl (fun W' hS => ?_) ?_
           ·obtain ⟨s0, s1, s2, s3, s4, s5, s6, s7, s8, s9, aB⟩ := five_facts hS;clear hS;go_simp
           simp only [lgA, lgB, lgC, aP, laA, lsA, lsB];refine Aa (.bool true) rfl rfl (fun W' hS => ?_) ?_
           ·obtain ⟨s0, s1, s2, s3, s4, s5, s6, s7, s8, s9, aB⟩ := five_facts hS;clear hS;go_simp
           simp only [lgA, lgB, lgC, aP, laA, lsA, lsB];refine Aa (.bool true) rfl rfl (fun W' hS => ?_) ?_
           ·obtain ⟨s0, s1, s2, s3, s4, s5, s6, s7, s8, s9, aB⟩ := five_facts hS;clear hS;go_simp
           simp only [lgA, lgB, lgC, aP, laA, lsA, lsB];refine Aa (.pointer (some ⟨w.heap.size, 4, none⟩)) rfl rfl (fun W' hS => ?_) ?_
           ·obtain ⟨s0, s1, s2, s3, s4, s5, s6, s7, s8, s9, aB⟩ := five_facts hS;clear hS;go_simp
           simp only [lgA, lgB, lgC, aP, laA, lsA, lsB];refine Aa (.slice a2 ks.length c2) rfl rfl (fun W' hS => ?_) ?_
           ·obtain ⟨s0, s1, s2, s3, s4, s5, s6, s7, s8, s9, aB⟩ := five_facts hS;clear hS;go_simp
           simp only [lgA, lgB, lgC, aP, laA, lsA, lsB];refine Aa (.pointer (some ⟨W.heap.size, 3, none⟩)) rfl rfl (fun W' hS => ?_) ?_
           ·obtain ⟨s0, s1, s2, s3, s4, s5, s6, s7, s8, s9, aB⟩ := five_facts hS;clear hS;go_simp
           simp only [lgA, lgB, lgC, aP, laA, lsA, lsB];refine Ad rfl (fun Kx aC => ?_);go_wp2_with fail;refine (Vn a2 c2 ks _ ((HS2.out _ HU.out.drew)) hkl Hks.out).mono ?_;rintro e w1 ⟨rfl, rfl⟩;go_wp2_with fail;refine aC _ _ (fun _ => HA.out.2 _ (by first | exact HU.out.drew | exact ((Below.refl _ W).alloc (nlr _) _).drew)) ?_;skip;refine Aa (.bool (risesL ks)) rfl rfl (fun W' hS => ?_) ?_
           ·obtain ⟨s0, s1, s2, s3, s4, s5, s6, s7, s8, s9, aB⟩ := five_facts hS;clear hS;go_simp
           simp only [lgA, lgB, lgC, aP, laA, lsA, lsB];refine Ad rfl (fun Kx aC => ?_);go_wp2_with fail;refine aC _ _ (fun _ => HA.out.2 _ (by first | exact HU.out.drew | exact ((Below.refl _ W).alloc (nlr _) _).drew)) ?_;skip;refine Aa (.pointer (some ⟨W.heap.size, 4, none⟩)) rfl rfl (fun W' hS => ?_) ?_
           ·obtain ⟨s0, s1, s2, s3, s4, s5, s6, s7, s8, s9, aB⟩ := five_facts hS;clear hS;go_simp
           simp only [lgA, lgB, lgC, aP, laA, lsA, lsB];refine Ad rfl (fun Kx aC => ?_);go_wp2_with fail;refine aC _ _ (fun _ => HA.out.2 _ (by first | exact HU.out.drew | exact ((Below.refl _ W).alloc (nlr _) _).drew)) ?_;skip;refine Aa (.bool (risesL ks)) rfl rfl (fun W' hS => ?_) ?_
           ·obtain ⟨s0, s1, s2, s3, s4, s5, s6, s7, s8, s9, aB⟩ := five_facts hS;clear hS;go_simp
           simp only [lgA, lgB, lgC, aP, laA, lsA, lsB];refine Ak ?_;go_wp2_with fail;go_meet
           case rel => exact ⟨(risesL ks), 0, ⟨#[]⟩, a1, ks.length, c1, a2, ks.length, c2, rfl, Lq7 ⟨heap_alloc_new W _, ((Below.refl _ W).alloc (nlr _) _).drew, (by have h := Tb n s l ks; rw [He.out, Bool.true_and, aV.out] at h; rw [aV.out]; exact h)⟩⟩
          ·have he : ((l.length : Int) == (ks.length : Int)) = false := (by simp; omega);have He : Hid ((l.length == ks.length) = false) := Lq7 (by simp [hle]);clear hle;go_wp2_with fail;refine Ae (.s 0 (.s 1 (.s 2 (.s 3 (.s 4 (.s 5 (.s 6 (.s 7 (.s 8 (.s 9 (.s 10 (.s 11 (.s 12 (.s 13 (.s 16 (.h 14 (.s 15 (.h 17 (.s 18 (.h 19 (.s 20 .nil))))))))))))))))))))) 99 (fun W' => W'.heap[w.heap.size]? = some (.cells #[.int .i64 5, .int .i64 n, .string s, .slice a1 l.length c1, .slice a2 ks.length c2] 31 (0, 0))) (by kernel_rfl) (by kernel_rfl) (fun c a d v w h => by cases d <;> exact h) (HA.out.2 _ HU.out.drew) ?_
           refine Aa (.pointer (some ⟨w.heap.size, 3, none⟩)) rfl rfl (fun W' hS => ?_) ?_
           ·obtain ⟨s0, s1, s2, s3, s4, s5, s6, s7, s8, s9, aB⟩ := five_facts hS;clear hS;go_simp
           simp only [lgA, lgC, aP, laA, lsA, lsB];refine Aa (.slice a1 l.length c1) rfl rfl (fun W' hS => ?_) ?_
           ·obtain ⟨s0, s1, s2, s3, s4, s5, s6, s7, s8, s9, aB⟩ := five_facts hS;clear hS;go_simp
           simp only [lgA, lgB, lgC, aP, laA, lsA, lsB];refine Aa (.pointer (some ⟨w.heap.size, 4, none⟩)) rfl rfl (fun W' hS => ?_) ?_
           ·obtain ⟨s0, s1, s2, s3, s4, s5, s6, s7, s8, s9, aB⟩ := five_facts hS;clear hS;go_simp
           simp only [lgA, lgB, lgC, aP, laA, lsA, lsB];refine Aa (.slice a2 ks.length c2) rfl rfl (fun W' hS => ?_) ?_
           ·obtain ⟨s0, s1, s2, s3, s4, s5, s6, s7, s8, s9, aB⟩ := five_facts hS;clear hS;go_simp
           simp only [lgA, lgB, lgC, aP, laA, lsA, lsB];refine Aa (.pointer (some ⟨w.heap.size, 3, none⟩)) rfl rfl (fun W' hS => ?_) ?_
           ·obtain ⟨s0, s1, s2, s3, s4, s5, s6, s7, s8, s9, aB⟩ := five_facts hS;clear hS;go_simp
           simp only [lgA, lgB, lgC, aP, laA, lsA, lsB];refine Aa (.slice a1 l.length c1) rfl rfl (fun W' hS => ?_) ?_
           ·obtain ⟨s0, s1, s2, s3, s4, s5, s6, s7, s8, s9, aB⟩ := five_facts hS;clear hS;go_simp
           simp only [lgA, lgB, lgC, aP, laA, lsA, lsB];refine Aa (.int .i64 l.length) rfl rfl (fun W' hS => ?_) ?_
           ·obtain ⟨s0, s1, s2, s3, s4, s5, s6, s7, s8, s9, aB⟩ := five_facts hS;clear hS;go_simp
           simp only [lgA, lgB, lgC, aP, laA, lsA, lsB];refine Aa (.pointer (some ⟨w.heap.size, 4, none⟩)) rfl rfl (fun W' hS => ?_) ?_
           ·obtain ⟨s0, s1, s2, s3, s4, s5, s6, s7, s8, s9, aB⟩ := five_facts hS;clear hS;go_simp
           simp only [lgA, lgB, lgC, aP, laA, lsA, lsB];refine Aa (.slice a2 ks.length c2) rfl rfl (fun W' hS => ?_) ?_
           ·obtain ⟨s0, s1, s2, s3, s4, s5, s6, s7, s8, s9, aB⟩ := five_facts hS;clear hS;go_simp
           simp only [lgA, lgB, lgC, aP, laA, lsA, lsB];refine Aa (.int .i64 ks.length) rfl rfl (fun W' hS => ?_) ?_
           ·obtain ⟨s0, s1, s2, s3, s4, s5, s6, s7, s8, s9, aB⟩ := five_facts hS;clear hS;go_simp
           simp only [lgA, lgB, lgC, aP, laA, lsA, lsB];refine Aa (.bool false) rfl rfl (fun W' hS => ?_) ?_
           ·obtain ⟨s0, s1, s2, s3, s4, s5, s6, s7, s8, s9, aB⟩ := five_facts hS;clear hS;go_simp
           simp only [lgA, lgB, lgC, aP, laA, lsA, lsB];refine Aa (.bool false) rfl rfl (fun W' hS => ?_) ?_
           ·obtain ⟨s0, s1, s2, s3, s4, s5, s6, s7, s8, s9, aB⟩ := five_facts hS;clear hS;go_simp
           simp only [lgA, lgB, lgC, aP, laA, lsA, lsB];refine Aj rfl rfl ?_;simp only [lgA, lgB, lgC, aP, laA, lsA, lsB];refine Aj rfl rfl ?_;simp only [lgA, lgB, lgC, aP, laA, lsA, lsB];refine Aa (.pointer (some ⟨W.heap.size, 3, none⟩)) rfl rfl (fun W' hS => ?_) ?_
           ·obtain ⟨s0, s1, s2, s3, s4, s5, s6, s7, s8, s9, aB⟩ := five_facts hS;clear hS;go_simp
           simp only [lgA, lgB, lgC, aP, laA, lsA, lsB];refine Ad rfl (fun Kx aC => ?_);go_wp2_with fail;refine aC _ _ (fun _ => HA.out.2 _ (by first | exact HU.out.drew | exact ((Below.refl _ W).alloc (nlr _) _).drew)) ?_;skip;refine Aa (.bool false) rfl rfl (fun W' hS => ?_) ?_
           ·obtain ⟨s0, s1, s2, s3, s4, s5, s6, s7, s8, s9, aB⟩ := five_facts hS;clear hS;go_simp
           simp only [lgA, lgB, lgC, aP, laA, lsA, lsB];refine Ad rfl (fun Kx aC => ?_);go_wp2_with fail;refine aC _ _ (fun _ => HA.out.2 _ (by first | exact HU.out.drew | exact ((Below.refl _ W).alloc (nlr _) _).drew)) ?_;skip;refine Aa (.pointer (some ⟨W.heap.size, 4, none⟩)) rfl rfl (fun W' hS => ?_) ?_
           ·obtain ⟨s0, s1, s2, s3, s4, s5, s6, s7, s8, s9, aB⟩ := five_facts hS;clear hS;go_simp
           simp only [lgA, lgB, lgC, aP, laA, lsA, lsB];refine Ad rfl (fun Kx aC => ?_);go_wp2_with fail;refine aC _ _ (fun _ => HA.out.2 _ (by first | exact HU.out.drew | exact ((Below.refl _ W).alloc (nlr _) _).drew)) ?_;skip;refine Aa (.bool false) rfl rfl (fun W' hS => ?_) ?_
           ·obtain ⟨s0, s1, s2, s3, s4, s5, s6, s7, s8, s9, aB⟩ := five_facts hS;clear hS;go_simp
           simp only [lgA, lgB, lgC, aP, laA, lsA, lsB];refine Ak ?_;go_wp2_with fail;go_meet
           case rel => exact ⟨false, 0, ⟨#[]⟩, a1, l.length, c1, a2, ks.length, c2, rfl, Lq7 ⟨heap_alloc_new W _, ((Below.refl _ W).alloc (nlr _) _).drew, (by have h := Tb n s l ks; rw [He.out, Bool.false_and] at h; exact h)⟩⟩
         ·
          have e0 : (k == 0) = false := (by simpa using h0);have e1 : (k == 1) = false := (by simpa using h1);have e2 : (k == 2) = false := (by simpa using h2);have e3 : (k == 3) = false := (by simpa using h3);have e4 : (k == 4) = false := (by simpa using h4);have e5 : (k == 5) = false := (by simpa using h5);have Hx : Hid (mayV (.mk k n s l ks) d m = (false, m - 1)) := Lq7 (by rw [Hr.out, nodeOkx n s l ks ⟨h0, h1, h2, h3, h4, h5⟩]; rfl);clear h0 h1 h2 h3 h4 h5;go_wp2_with fail;go_ret;rw [Hx.out];exact ⟨rfl, grownBy_trans HW.out.grown (grownBy_below HU.out), (HU.out.block _ (by have := HW.out.size; have := HW.out.lbl; omega)).trans HW.out.left⟩
   case rest =>
    obtain ⟨rt, bn, bs, a3, l3, c3, a4, l4, c4, hrv, Hc⟩ := hcut;subst hrv;rename World => wc;have aE := Lq7 (HW.out.below Hc.out.2.1);have aI : Hid (nodeOk k n s l ks = false → Hid (mayV (.mk k n s l ks) d m = (false, m - 1))) := Lq7 (fun h => Lq7 (by rw [Hr.out, h]; rfl));clear t0 t1 t2 t3 t4 t5 t6 t7 t8 t9 aU;obtain ⟨t0, t1, t2, t3, t4, t5, t6, t7, t8, t9, aU⟩ := five_facts aE.out.a;obtain ⟨u0, u1, u2, u3, u4, u5, u6, u7, u8, u9, u10⟩ := five_facts Hc.out.1;cases rt
    ·have h9 : nodeOk k n s l ks = false := (by rw [Hc.out.2.2]; rfl);have Hx := aI.out h9;clear h9;go_wp2_with fail;go_ret;rw [Hx.out];exact ⟨rfl, grownBy_trans HW.out.grown (grownBy_below Hc.out.2.1), aE.out.left⟩
    ·cases hn : (bn == n)
     ·have hn' : (bn != n) = true := (by simp [bne, hn]);have h9 : nodeOk k n s l ks = false := (by rw [Hc.out.2.2, hn]; simp);have Hx := aI.out h9;clear h9;go_wp2_with fail;go_ret;rw [Hx.out];exact ⟨rfl, grownBy_trans HW.out.grown (grownBy_below Hc.out.2.1), aE.out.left⟩
     ·have hn' : (bn != n) = false := (by simp [bne, hn]);cases hs : (bs.toList == s.toList)
      ·have hs' : (bs.toList != s.toList) = true := (by simp [bne, hs]);have h9 : nodeOk k n s l ks = false := (by rw [Hc.out.2.2, hs]; simp);have Hx := aI.out h9;clear h9;go_wp2_with fail;go_ret;rw [Hx.out];exact ⟨rfl, grownBy_trans HW.out.grown (grownBy_below Hc.out.2.1), aE.out.left⟩
      ·have hs' : (bs.toList != s.toList) = false := (by simp [bne, hs]);cases hl3 : ((l3 : Int) == (l.length : Int))
       ·have hl3' : ((l3 : Int) != (l.length : Int)) = true := (by simp [bne, hl3]);have h9 : nodeOk k n s l ks = false := (by rw [Hc.out.2.2, hl3]; simp);have Hx := aI.out h9;clear h9;go_wp2_with fail;go_ret;rw [Hx.out];exact ⟨rfl, grownBy_trans HW.out.grown (grownBy_below Hc.out.2.1), aE.out.left⟩
       ·have hl3' : ((l3 : Int) != (l.length : Int)) = false := (by simp [bne, hl3]);cases hl4 : ((l4 : Int) == (ks.length : Int))
        ·have hl4' : ((l4 : Int) != (ks.length : Int)) = true := (by simp [bne, hl4]);have h9 : nodeOk k n s l ks = false := (by rw [Hc.out.2.2, hl4]; simp);have Hx := aI.out h9;clear h9;go_wp2_with fail;go_ret;rw [Hx.out];exact ⟨rfl, grownBy_trans HW.out.grown (grownBy_below Hc.out.2.1), aE.out.left⟩
        ·have hl4' : ((l4 : Int) != (ks.length : Int)) = false := (by simp [bne, hl4]);have aJ : Hid (mayV (.mk k n s l ks) d m = mayVs l (d + 1) (m - 1)) := Lq7 (by rw [Hr.out, if_pos (by rw [Hc.out.2.2, hn, hs, hl3, hl4]; rfl)]);have hmf : ∀ (fn : Fn) (first cap : Array Value) (w : World), (Instr.makeFunc fn first cap).run Tryz.prog w = .ok (.func fn first cap) w := fun _ _ _ _ => rfl;have aR := aE.out.grown;have Hcf := Lq7 (Jb F 169 #[] #[.pointer (some ⟨w.heap.size + 1, 0, none⟩), .pointer (some ⟨w.heap.size + 1 + 1, 0, none⟩)] (by intro args w; rfl) a1 c1 l (mayQ (d + 1) l (m - 1))
          (fun j W' => wc.grownBy W' (some lb) ∧ W'.heap[lb]? = some (.cells #[.int .i64 (Ce (d + 1) l (m - 1) j)] 3 (0, 0))) wc (by omega) ⟨grownBy_refl _ _, by rw [Cn]; exact aE.out.left⟩
          (fun j W' h => Hr1.out.mono (fun b hF hl => ⟨hF, nll hl (grownBy_trans aR h.1).size, (grownBy_trans aR h.1).block b hl (fun e => by cases e; exact HF.out _ hF rfl)⟩))
          (fun j kk kn ks' km kks b1 e1 b2 e2 W' hj hI hq hr1 hr2 => by
           have hlo := Nr (d + 1) l (m - 1) j (by omega) (fun i hi hil => hq i hi);have hsz := aE.out.size;have hlbl := aE.out.lbl;have hx : MayC (.mk kk kn ks' km kks) := Hit.out _ (lgM hj);refine (may1_any (.mk kk kn ks' km kks) hx F d (Ce (d + 1) l (m - 1) j) lb (w.heap.size + 1) (w.heap.size + 1 + 1) b1 e1 b2 e2 W' HF.out hd0 (by omega) hlo.1 (by omega) hI.2
            ((hI.1.block _ (by omega) (fun e => by cases e; omega)).trans aE.out.b) ((hI.1.block _ (by omega) (fun e => by cases e; omega)).trans aE.out.c) hr1 hr2).mono ?_
           rintro e w2 ⟨rfl, hg2, hl2⟩;have hq' : mayQ (d + 1) l (m - 1) j = !(mayV (.mk kk kn ks' km kks) (d + 1) (Ce (d + 1) l (m - 1) j)).1 := (by unfold mayQ; rw [hj]);exact ⟨by rw [hq'], grownBy_trans hI.1 hg2, by rw [Kn _ _ _ _ _ hj]; exact hl2⟩))
         clear aR;go_wp2_with fail;refine Hcf.out.mono ?_;rintro e w2 (⟨i, hi, aW, hq, rfl, aM⟩ | ⟨hq, rfl, aM⟩)
         ·have aH : Hid (mayV (.mk k n s l ks) d m = (false, Ce (d + 1) l (m - 1) (i + 1))) := Lq7 (by rw [aJ.out]; exact Nq _ _ _ _ hi aW hq);have aN := Lq7 aM;clear hi aW hq aM;go_wp2_with fail;go_ret;rw [aH.out];exact ⟨rfl, grownBy_trans aE.out.grown aN.out.1, aN.out.2⟩
         ·have aH : Hid (mayV (.mk k n s l ks) d m = (true, Ce (d + 1) l (m - 1) l.length)) := Lq7 (by rw [aJ.out]; exact Np _ _ _ hq);have aN := Lq7 aM;clear hq aM;go_wp2_with fail;go_ret;rw [aH.out];exact ⟨rfl, grownBy_trans aE.out.grown aN.out.1, aN.out.2⟩
theorem may_all (v : Vl) : smallV v → MayC v :=
 Vl.rec (motive_1 := fun v => smallV v → MayC v) (motive_2 := fun l => smallVs l → ∀ x ∈ l, MayC x)
  (fun k n s l ks ih hs => by
   rw [smallV] at hs;intro F d m lb a1 c1 a2 c2 w hF hd0 hd1 hm0 hm1 hb hr1 hr2;exact may_node k n s l ks F d m lb a1 c1 a2 c2 w hd0 hd1 hm0 hm1 hb hr1 hr2 hF hs.2.1 hs.2.2.1 hs.2.2.2.1 hs.1.1 (ih hs.2.2.2.2) hs.1.2)
  (fun _ x hx => by cases hx)
  (fun v t hv ht hs x hx => by
   rw [smallVs] at hs;rcases List.mem_cons.1 hx with rfl | hx
   ·exact hv hs.1
   ·exact ht hs.2 x hx) v
theorem Em (v : Vl) (hs : smallV v) (F : Nat → Prop) (a1 : Option Addr) (c1 : Nat) (a2 : Option Addr) (c2 : Nat) (w : World) (hF : ∀ b, F b → b < w.heap.size) (hr1 : Ac F w a1 (valsD v.items)) (hr2 : Ac F w a2 (Aq v.keys)) :
  Calls Tryz.prog 109 #[vCells v.kind v.num v.str a1 v.items.length c1 a2 v.keys.length c2] w (fun e w' => e = .returned (.bool (checkV v)) ∧ Below w.heap.size w w') := by
 have aF : Below w.heap.size w ((w.alloc (.cells #[.int .i64 v.kind, .int .i64 v.num, .string v.str, .slice a1 v.items.length c1, .slice a2 v.keys.length c2] 31)).alloc (.cells #[.int .i64 20000] 3)) := ((Below.refl _ w).alloc (nlr _) _).alloc (by simp) _;have hl : ((w.alloc (.cells #[.int .i64 v.kind, .int .i64 v.num, .string v.str, .slice a1 v.items.length c1, .slice a2 v.keys.length c2] 31)).alloc (.cells #[.int .i64 20000] 3)).heap[w.heap.size + 1]? = some (.cells #[.int .i64 20000] 3 (0, 0)) := by
  have := heap_alloc_new (w.alloc (.cells #[.int .i64 v.kind, .int .i64 v.num, .string v.str, .slice a1 v.items.length c1, .slice a2 v.keys.length c2] 31)) (.cells #[.int .i64 20000] 3)
  simpa using this
 have Hc := Lq7 (may_all v hs F 1 20000 (w.heap.size + 1) a1 c1 a2 c2 _ (fun b hb => by have := hF b hb; omega) (by omega) (by omega) (by omega) (by omega) hl (hr1.below aF) (hr2.below aF));have aG := Lq7 aF;clear hl hr1 hr2 aF hF;unfold vCells at Hc ⊢;go_enter Tryz.func109, Tryz.ntmps109;go_wp2_with fail;refine Hc.out.mono ?_;rintro e w1 ⟨rfl, hg, -⟩;go_wp2_with fail;go_ret;exact ⟨rfl, ⟨hg.os.trans aG.out.os, hg.tape.trans aG.out.tape, hg.output.trans aG.out.output, nlt aG.out.size hg.size, fun b hb => (hg.block b (nll hb aG.out.size) (fun e => by cases e; omega)).trans (aG.out.block b hb)⟩⟩
section
variable {H : Type} {enc : TypeId × Value → H} {P : Program} {W : World}
theorem Ff {α : Type} (f : α → List Dat) (good : α → Prop) {t e : TypeId} (ht : P.underlying t = some (.slice e)) {fuel : Nat} {cs : List Value} {d : DataW H} {ps : List MemPlace}
  (hel : ∀ n us y, n < fuel → DataW.trod enc P W 0 (fun _ => true) true n e us = some y → (∀ k ∈ y.1.weights P e, k ≤ reachBytes) → ∃ v, toDat y.1 = f v ∧ good v)
  (h : DataW.trod enc P W 0 (fun _ => true) true fuel t cs = some (d, ps)) (hw : ∀ k ∈ d.weights P t, k ≤ reachBytes) : ∃ l : List α, toDat d = [.row (l.map f)] ∧ (∀ v ∈ l, good v) ∧ l.length * P.bytesOf e ≤ reachBytes := by
 rcases DataW.trod_slice ht h with ⟨rfl, hx⟩ | ⟨a, len, cap, elems, rest, n, hn, rfl, hx, -, hl, hm, hlen, hl2, -, -⟩
 ·cases hx;exact ⟨[], (by rw [toDat]; rfl), (fun v hv => by cases hv), (by simp)⟩
 ·cases hx;cases hn;have hw' : ∀ k ∈ ((elems.map (·.1)).length + (rest.map (·.1)).length) * P.bytesOf e :: (DataW.weightsAll P e (elems.map (·.1)) ++ DataW.weightsAll P e (rest.map (·.1))), k ≤ reachBytes := by
   intro k hk;refine hw k ?_;rw [DataW.weights, ht];exact hk
  have aB := hw' _ (lmS ..);have aC : ∀ (l : List (DataW H)) y, y ∈ l → ∀ k ∈ y.weights P e, k ∈ DataW.weightsAll P e l := by
   intro l
   induction l with
   | nil => intro y hy; cases hy
   | cons z t ih =>
    intro y hy k hk;rw [DataW.weightsAll, List.mem_append];rcases List.mem_cons.1 hy with rfl | hy
    ·exact .inl hk
    ·exact .inr (ih y hy k hk)
  have hex : ∀ j : Fin elems.length, ∃ v, toDat elems[j].1 = f v ∧ good v := by
   intro j;have h1 := hl2 j (by rw [← hlen]; exact j.2);cases hcs : W.cells? 0 (a.add (j * P.cellsOf e)) (P.cellsOf e) with
   | none => rw [hcs, lgE j.2] at h1; cases h1
   | some us =>
    rw [hcs, lgE j.2] at h1;exact hel n us _ (Nat.lt_succ_self n) h1 (fun k hk => hw' k (lmO _ (List.mem_append_left _ (aC _ _ (List.mem_map_of_mem (f := (·.1)) (List.getElem_mem j.2)) k hk))))
  obtain ⟨g, hg⟩ := Classical.axiomOfChoice hex;refine ⟨List.ofFn g, ?_, ?_, ?_⟩
  ·rw [toDat, I1]
   congr 2
   apply List.ext_getElem
   ·simp
   ·intro i h1 h2;simp only [List.getElem_map, List.getElem_ofFn];exact (hg ⟨i, by simpa using h1⟩).1
  ·intro v hv;obtain ⟨j, rfl⟩ := List.mem_ofFn.1 hv;exact (hg j).2
  ·rw [List.length_ofFn];rw [lnM] at aB;exact nlt (Nat.mul_le_mul_right _ (Nat.le_add_right _ _)) aB
theorem E8 {t : TypeId} (ht : P.underlying t = some .string) {fuel : Nat} {cs : List Value} {d : DataW H} {ps : List MemPlace} (h : DataW.trod enc P W 0 (fun _ => true) true fuel t cs = some (d, ps)) (hw : ∀ k ∈ d.weights P t, k ≤ reachBytes) :
  ∃ s : ByteArray, toDat d = [.one (.string s)] ∧ s.size ≤ reachBytes := by
 obtain ⟨s, rfl, hx, -⟩ := DataW.trod_string ht h;cases hx;refine ⟨s, by rw [toDat], ?_⟩;have := hw s.data.toList.length (by simp [DataW.weights])
 rwa [Af] at this
theorem E9 {q : IntKind} {t : TypeId} (ht : P.underlying t = some (.int q)) {fuel : Nat} {cs : List Value} {d : DataW H} {ps : List MemPlace} (h : DataW.trod enc P W 0 (fun _ => true) true fuel t cs = some (d, ps)) :
  ∃ n : Int, toDat d = [.one (.int q n)] ∧ (Lit.int q n).wf = true := by
 obtain ⟨n, rfl, hx, hw⟩ := DataW.trod_int ht h;cases hx;exact ⟨n, by rw [toDat], hw⟩
end
theorem bytesVal : Tryz.prog.bytesOf 31 = 80 := by kernel_rfl
theorem bytesStrE : Tryz.prog.bytesOf 9 = 16 := by kernel_rfl
theorem Qf {H : Type} {enc : TypeId × Value → H} {W : World} : ∀ (fuel : Nat) (cs : List Value) (d : DataW H) (ps : List MemPlace), DataW.trod enc Tryz.prog W 0 (fun _ => true) true fuel 31 cs = some (d, ps) → (∀ k ∈ d.weights Tryz.prog 31, k ≤ reachBytes) →
  ∃ v : Vl, toDat d = valD v ∧ smallV v := by
 intro fuel
 induction fuel using Nat.strongRecOn with
 | _ fuel ih =>
  intro cs d ps h hw;obtain ⟨xs, n, rfl, hx, -, hxl, hf⟩ := DataW.trod_struct Tryz.underlying31 h;cases hx
  match xs, hxl with
  | [y0, y1, y2, y3, y4], _ =>
   have e0 := hf 0 _ rfl;have e1 := hf 1 _ rfl;have e2 := hf 2 _ rfl;have e3 := hf 3 _ rfl;have e4 := hf 4 _ rfl;have hwe : ∀ k ∈ DataW.weightsEach Tryz.prog [3, 2, 9, 28, 29] [y0.1, y1.1, y2.1, y3.1, y4.1], k ≤ reachBytes := by
    intro k hk;refine hw k ?_;rw [DataW.weights, Tryz.underlying31];exact hk
   have aE := fun (j : Nat) (t : TypeId) (y : DataW H) (h1 : ([3, 2, 9, 28, 29] : List TypeId)[j]? = some t) (h2 : ([y0.1, y1.1, y2.1, y3.1, y4.1] : List (DataW H))[j]? = some y) (k : Nat) (hk : k ∈ y.weights Tryz.prog t) => hwe k (DataW.weights_mem_each h1 h2 k hk);obtain ⟨k, h0, -⟩ := E9 Tryz.underlying3 (show DataW.trod enc Tryz.prog W 0 (fun _ => true) true n 3 _ = some (y0.1, y0.2) from e0);obtain ⟨m, h1, hmw⟩ := E9 Tryz.underlying2 (show DataW.trod enc Tryz.prog W 0 (fun _ => true) true n 2 _ = some (y1.1, y1.2) from e1);obtain ⟨s, h2, hs⟩ := E8 Tryz.underlying9 (show DataW.trod enc Tryz.prog W 0 (fun _ => true) true n 9 _ = some (y2.1, y2.2) from e2) (aE 2 _ _ rfl rfl);obtain ⟨l, h3, hl, aG⟩ := Ff valD smallV Tryz.underlying28 (fun n' us y hn' hy aF => ih n' (by omega) us y.1 y.2 hy aF) (show DataW.trod enc Tryz.prog W 0 (fun _ => true) true n 28 _ = some (y3.1, y3.2) from e3) (aE 3 _ _ rfl rfl);obtain ⟨ks, h4, aH, aI⟩ := Ff (fun s => [Dat.one (.string s)]) (fun s : ByteArray => s.size ≤ reachBytes) Tryz.underlying29 (fun n' us y hn' hy aF => E8 Tryz.underlying9 (show DataW.trod enc Tryz.prog W 0 (fun _ => true) true n' 9 us = some (y.1, y.2) from hy) aF) (show DataW.trod enc Tryz.prog W 0 (fun _ => true) true n 29 _ = some (y4.1, y4.2) from e4) (aE 4 _ _ rfl rfl);refine ⟨.mk k m s l ks, ?_, ?_⟩
   ·rw [toDat];simp only [List.map_cons, List.map_nil, Gc, h0, h1, h2, h3, h4, List.append_nil, List.cons_append, List.nil_append];rw [valD, Cb];rfl
   ·rw [bytesVal] at aG;rw [bytesStrE] at aI;rw [smallV];have all : ∀ l : List Vl, (∀ v ∈ l, smallV v) → smallVs l := by
     intro l
     induction l with
     | nil => intro _; rw [smallVs]; trivial
     | cons v t ih2 => intro h; rw [smallVs]; exact ⟨h v (lmS ..), ih2 fun x hx => h x (lmO _ hx)⟩
    unfold reachBytes at hs aG aI aH;have hin : inR m = true := by
     have h9 := hmw;simp [Lit.wf] at h9;unfold inR;simp;exact h9
    exact ⟨⟨by omega, hin⟩, by omega, by omega, fun x hx => by have := aH x hx; omega, all l hl⟩
theorem Ow {v : Value} {cs : List Value} (h : v.cells.toList = cs) (hn : cs.length ≠ 1) : v = .agg cs.toArray := by
 cases v with
 | agg a => simp only [Value.cells] at h; rw [← h]
 | _ => subst h; exact absurd rfl hn
theorem bytesNamed : Tryz.prog.bytesOf 33 = 96 := by kernel_rfl
theorem M0 {H : Type} {enc : TypeId × Value → H} {W : World} (fuel : Nat) (cs : List Value) (d : DataW H) (ps : List MemPlace) (h : DataW.trod enc Tryz.prog W 0 (fun _ => true) true fuel 24 cs = some (d, ps)) :
  ∃ a b : Int, toDat d = [.one (.int .i64 a), .one (.int .i64 b)] := by
 obtain ⟨xs, n, rfl, hx, -, aB, hf⟩ := DataW.trod_struct Tryz.underlying24 h;cases hx
 match xs, aB with
 | [y0, y1], _ =>
  have e0 := hf 0 _ rfl;have e1 := hf 1 _ rfl;obtain ⟨a, h0, -⟩ := E9 Tryz.underlying3 (show DataW.trod enc Tryz.prog W 0 (fun _ => true) true n 3 _ = some (y0.1, y0.2) from e0);obtain ⟨b, h1, -⟩ := E9 Tryz.underlying3 (show DataW.trod enc Tryz.prog W 0 (fun _ => true) true n 3 _ = some (y1.1, y1.2) from e1);exact ⟨a, b, by rw [toDat]; simp only [List.map_cons, List.map_nil, Gc, h0, h1, List.append_nil, List.cons_append, List.nil_append]⟩
theorem M1 {H : Type} {enc : TypeId × Value → H} {W : World} (fuel : Nat) (cs : List Value) (d : DataW H) (ps : List MemPlace) (h : DataW.trod enc Tryz.prog W 0 (fun _ => true) true fuel 33 cs = some (d, ps)) (hw : ∀ k ∈ d.weights Tryz.prog 33, k ≤ reachBytes) :
  ∃ q : ByteArray × Vl, toDat d = D8 q ∧ (q.1.size ≤ reachBytes ∧ smallV q.2) := by
 obtain ⟨xs, n, rfl, hx, -, aB, hf⟩ := DataW.trod_struct Tryz.underlying33 h;cases hx
 match xs, aB with
 | [y0, y3], _ =>
  have e0 := hf 0 _ rfl;have e3 := hf 1 _ rfl;have hwe : ∀ k ∈ DataW.weightsEach Tryz.prog [9, 31] [y0.1, y3.1], k ≤ reachBytes := by
   intro k hk;refine hw k ?_;rw [DataW.weights, Tryz.underlying33];exact hk
  have aC := fun (j : Nat) (t : TypeId) (y : DataW H) (h1 : ([9, 31] : List TypeId)[j]? = some t) (h2 : ([y0.1, y3.1] : List (DataW H))[j]? = some y) (k : Nat) (hk : k ∈ y.weights Tryz.prog t) => hwe k (DataW.weights_mem_each h1 h2 k hk);obtain ⟨s, h0, hs⟩ := E8 Tryz.underlying9 (show DataW.trod enc Tryz.prog W 0 (fun _ => true) true n 9 _ = some (y0.1, y0.2) from e0) (aC 0 _ _ rfl rfl);obtain ⟨v, h3, hv⟩ := Qf n _ y3.1 y3.2 e3 (aC 1 _ _ rfl rfl);exact ⟨(s, v), by rw [toDat]; simp only [List.map_cons, List.map_nil, Gc, h0, h3, List.append_nil, List.cons_append, List.nil_append]; rfl, hs, hv⟩
def callTs : List TypeId := [26, 33, 22, 31, 28, 29, 24, 9, 3, 2]
theorem callTs_ok : callTs.all (okT Tryz.prog callTs) = true := by kernel_rfl
theorem Uo {H : Type} {enc : TypeId × Value → H} {W : World} {v : Value} {d : DataW H} {p : List MemPlace} (h : DataW.Trod enc Tryz.prog W 0 (fun _ => true) true 26 v d p) (hw : ∀ k ∈ d.weights Tryz.prog 26, k ≤ reachBytes) :
  ∃ (dr : ByteArray) (args : List (ByteArray × Vl)) (aD : Option Addr) (cD : Nat) (x3 x4 : Int), v = .agg #[.string dr, .slice aD args.length cD, .int .i64 x3, .int .i64 x4] ∧ Ac (fun b => b < W.heap.size) W aD (Aw args) ∧
   dr.size ≤ reachBytes ∧ (∀ q ∈ args, q.1.size ≤ reachBytes ∧ smallV q.2) ∧ args.length ≤ 140737488355328 := by
 obtain ⟨fuel, hf⟩ := h;have hd := Qe callTs_ok fuel 26 _ d p (by decide) hf;obtain ⟨xs, n, rfl, hx, -, hxl, hg⟩ := DataW.trod_struct Tryz.underlying26 hf;cases hx
 match xs, hxl with
 | [y0, y1, y3], _ =>
  have e0 := hg 0 _ rfl;have e1 := hg 1 _ rfl;have e3 := hg 2 _ rfl;have hwe : ∀ k ∈ DataW.weightsEach Tryz.prog [9, 22, 24] [y0.1, y1.1, y3.1], k ≤ reachBytes := by
   intro k hk;refine hw k ?_;rw [DataW.weights, Tryz.underlying26];exact hk
  have aB := fun (j : Nat) (t : TypeId) (y : DataW H) (h1 : ([9, 22, 24] : List TypeId)[j]? = some t) (h2 : ([y0.1, y1.1, y3.1] : List (DataW H))[j]? = some y) (k : Nat) (hk : k ∈ y.weights Tryz.prog t) => hwe k (DataW.weights_mem_each h1 h2 k hk);obtain ⟨s, h0, hs⟩ := E8 Tryz.underlying9 (show DataW.trod enc Tryz.prog W 0 (fun _ => true) true n 9 _ = some (y0.1, y0.2) from e0) (aB 0 _ _ rfl rfl);obtain ⟨l, h1, hl, aC⟩ := Ff D8 (fun q => q.1.size ≤ reachBytes ∧ smallV q.2) Tryz.underlying22 (fun n' us y hn' hy hky => M1 n' us y.1 y.2 hy hky) (show DataW.trod enc Tryz.prog W 0 (fun _ => true) true n 22 _ = some (y1.1, y1.2) from e1) (aB 1 _ _ rfl rfl);obtain ⟨x1, x2, h3⟩ := M0 n _ y3.1 y3.2 e3;rw [toDat] at hd;simp only [List.map_cons, List.map_nil, Gc, h0, h1, h3, List.append_nil, List.cons_append, List.nil_append] at hd;obtain ⟨c0, cs0, q0, g0, hd⟩ := hd.cons_inv;obtain ⟨c1, cs1, q1, g1, hd⟩ := hd.cons_inv;obtain ⟨c3, cs3, q3, g3, hd⟩ := hd.cons_inv;obtain ⟨c4, cs4, q4, g4, hd⟩ := hd.cons_inv;obtain rfl := hd.nil_inv;obtain rfl := g0.one_inv;obtain rfl := g3.one_inv;obtain rfl := g4.one_inv;obtain ⟨aA, cA, rfl, hrA⟩ := g1.row_inv;rw [q4] at q3;rw [q3] at q1;rw [q1] at q0;have hv := Ow q0 (by simp);rw [lnM] at hv;rw [bytesNamed] at aC;unfold reachBytes at aC;exact ⟨s, l, aA, cA, x1, x2, hv, hrA, hs, hl, by omega⟩
theorem rises_keys : ∀ (l : List ByteArray) (p : Option ByteArray), risesGo p l = true → ∀ s ∈ l, s.size ≤ 65536
 | [], _, _, s, hs => by cases hs
 | x :: t, p, h, s, hs => by
  rw [Eg] at h;simp only [Bool.and_eq_true, decide_eq_true_eq] at h;rcases List.mem_cons.1 hs with rfl | hs
  ·exact h.1.1
  ·exact rises_keys t _ h.2 s hs
theorem F1 {s : ByteArray} (h : s.toList = []) : s.size = 0 := by
 rw [Lq8] at h;rw [← Af, h]; rfl
theorem Ob {k n : Int} {s : ByteArray} {l : List Vl} {ks : List ByteArray} (h : nodeOk k n s l ks = true) : inR n = true := by
 unfold nodeOk at h;have aB : ∀ m : Int, m = 0 ∨ m = 1 → inR m = true := fun m hm => by rcases hm with rfl | rfl <;> rfl
 split at h
 ·simp only [Bool.and_eq_true, beq_iff_eq] at h;exact aB n (.inl h.1.1.1)
 ·split at h
  ·simp only [Bool.and_eq_true, Bool.or_eq_true, beq_iff_eq] at h;exact aB n h.1.1.1
  ·split at h
   ·simp only [Bool.and_eq_true] at h;exact h.1.1.1
   ·split at h
    ·simp only [Bool.and_eq_true, beq_iff_eq] at h;exact aB n (.inl h.1.1.1)
    ·split at h
     ·simp only [Bool.and_eq_true, beq_iff_eq] at h;exact aB n (.inl h.1.1.1)
     ·split at h
      ·simp only [Bool.and_eq_true, beq_iff_eq] at h;exact aB n (.inl h.1.1.1)
      ·cases h
theorem Gl {k n : Int} {s : ByteArray} {l : List Vl} {ks : List ByteArray} (h : nodeOk k n s l ks = true) : s.size ≤ 65536 ∧ l.length ≤ 1000 ∧ ks.length ≤ 1000 ∧ ∀ x ∈ ks, x.size ≤ 65536 := by
 unfold nodeOk at h;split at h
 ·simp only [Bool.and_eq_true, List.isEmpty_iff] at h;obtain ⟨⟨⟨-, h2⟩, rfl⟩, rfl⟩ := h;have := F1 h2;exact ⟨by omega, by simp, by simp, by simp⟩
 ·split at h
  ·simp only [Bool.and_eq_true, List.isEmpty_iff] at h;obtain ⟨⟨⟨-, h2⟩, rfl⟩, rfl⟩ := h;have := F1 h2;exact ⟨by omega, by simp, by simp, by simp⟩
  ·split at h
   ·simp only [Bool.and_eq_true, List.isEmpty_iff] at h;obtain ⟨⟨⟨-, h2⟩, rfl⟩, rfl⟩ := h;have := F1 h2;exact ⟨by omega, by simp, by simp, by simp⟩
   ·split at h
    ·simp only [Bool.and_eq_true, List.isEmpty_iff, decide_eq_true_eq] at h;obtain ⟨⟨⟨-, h2⟩, rfl⟩, rfl⟩ := h;exact ⟨h2, by simp, by simp, by simp⟩
    ·split at h
     ·simp only [Bool.and_eq_true, List.isEmpty_iff, decide_eq_true_eq] at h;obtain ⟨⟨⟨-, h2⟩, h3⟩, rfl⟩ := h;have := F1 h2;exact ⟨by omega, h3, by simp, by simp⟩
     ·split at h
      ·simp only [Bool.and_eq_true, beq_iff_eq] at h;obtain ⟨⟨⟨-, h2⟩, h3⟩, h4⟩ := h;have := F1 (List.isEmpty_iff.1 h2);unfold risesL at h4;simp only [Bool.and_eq_true, decide_eq_true_eq] at h4;exact ⟨by omega, by omega, h4.2, rises_keys _ _ h4.1⟩
      ·cases h
theorem Vs (v : Vl) : ∀ d m, (mayV v d m).1 = true → smallV v :=
 Vl.rec (motive_1 := fun v => ∀ d m, (mayV v d m).1 = true → smallV v) (motive_2 := fun l => ∀ d m, (mayVs l d m).1 = true → smallVs l)
  (fun k n s l ks ih d m h => by
   rw [mayV] at h;split at h
   ·cases h
   ·split at h
    ·rename_i hk
     obtain ⟨h1, h2, h3, h4⟩ := Gl hk;rw [smallV];exact ⟨⟨by omega, Ob hk⟩, by omega, by omega, fun x hx => by have := h4 x hx; omega, ih _ _ h⟩
    ·cases h)
  (fun _ _ _ => by rw [smallVs]; trivial)
  (fun v t hv ht d m h => by
   rw [mayVs] at h;split at h
   ·rename_i h1
    rw [smallVs];exact ⟨hv _ _ h1, ht _ _ h⟩
   ·cases h) v
theorem Bf {v : Vl} (h : checkV v = true) : smallV v := Vs v _ _ h
theorem Py (v : Vl) : ∀ d m d' m', d' ≤ d → m ≤ m' → (mayV v d m).1 = true → (mayV v d' m').1 = true ∧ (mayV v d' m').2 = (mayV v d m).2 + (m' - m) ∧ (mayV v d m).2 ≤ m :=
 Vl.rec (motive_1 := fun v => ∀ d m d' m', d' ≤ d → m ≤ m' → (mayV v d m).1 = true → (mayV v d' m').1 = true ∧ (mayV v d' m').2 = (mayV v d m).2 + (m' - m) ∧ (mayV v d m).2 ≤ m)
  (motive_2 := fun l => ∀ d m d' m', d' ≤ d → m ≤ m' → (mayVs l d m).1 = true → (mayVs l d' m').1 = true ∧ (mayVs l d' m').2 = (mayVs l d m).2 + (m' - m) ∧ (mayVs l d m).2 ≤ m)
  (fun k n s l ks ih d m d' m' hd hm h => by
   rw [mayV] at h ⊢;split at h
   ·cases h
   ·rename_i h1
    split at h
    ·rename_i hk
     rw [if_neg (by omega), if_pos hk];have h2 := ih (d + 1) (m - 1) (d' + 1) (m' - 1) (by omega) (by omega) h;rw [mayV, if_neg h1, if_pos hk];exact ⟨h2.1, by rw [h2.2.1]; omega, by omega⟩
    ·cases h)
  (fun d m d' m' _ _ _ => by rw [mayVs, mayVs]; exact ⟨rfl, by simp; omega, Int.le_refl _⟩)
  (fun v t hv ht d m d' m' hd hm h => by
   rw [mayVs] at h;split at h
   ·rename_i h1
    obtain ⟨h2, h3, h4⟩ := hv d m d' m' hd hm h1;obtain ⟨h5, h6, h7⟩ := ht d (mayV v d m).2 d' (mayV v d' m').2 hd (by omega) h;rw [mayVs, if_pos h2, mayVs, if_pos h1];exact ⟨h5, by rw [h6, h3]; omega, by omega⟩
   ·cases h) v
theorem mays_items : ∀ (l : List Vl) (d m : Int), 1 ≤ d → m ≤ 20000 → (mayVs l d m).1 = true → ∀ x ∈ l, checkV x = true
 | [], _, _, _, _, _ => fun x hx => by cases hx
 | v :: t, d, m, hd, hm, h => fun x hx => by
  rw [mayVs] at h;split at h
  ·rename_i h1
   obtain ⟨h2, -, -⟩ := Py v d m 1 20000 hd hm h1;obtain ⟨-, -, h4⟩ := Py v d m d m (Int.le_refl _) (Int.le_refl _) h1;rcases List.mem_cons.1 hx with rfl | hx
   ·exact h2
   ·exact mays_items t d _ hd (by omega) h x hx
  ·cases h
theorem Ki {k n : Int} {s : ByteArray} {l : List Vl} {ks : List ByteArray} (h : checkV (.mk k n s l ks) = true) : ∀ x ∈ l, checkV x = true := by
 unfold checkV at h;rw [mayV] at h;split at h
 ·cases h
 ·split at h
  ·exact mays_items l _ _ (by decide) (by decide) h
  ·cases h

def textsL (v : Vl) : Option (List ByteArray) := if v.kind = 4 ∧ checkV v = true ∧ v.items.all (fun x => x.kind == 3) = true then some (v.items.map Vl.str) else none
def Mt (v : Vl) (w : World) (e : Ending) (w' : World) : Prop := Below w.heap.size w w' ∧ match textsL v with
 | some l => ∃ x, e = .returned (.tuple #[x, .bool true]) ∧ OwnS w' w.heap.size x l
 | none => e = .returned (.tuple #[.slice none 0 0, .bool false])
theorem En {k n : Int} {s : ByteArray} {l : List Vl} {ks : List ByteArray} (h : checkV (.mk k n s l ks) = true) : s.size ≤ 65536 ∧ l.length ≤ 1000 ∧ ks.length ≤ 1000 := by
 unfold checkV at h;rw [mayV] at h;split at h
 ·cases h
 ·split at h
  ·rename_i hk
   obtain ⟨h1, h2, h3, -⟩ := Gl hk;exact ⟨h1, h2, h3⟩
  ·cases h
theorem C3 (k n : Int) (s : ByteArray) (l : List Vl) (ks : List ByteArray) (hs : smallV (.mk k n s l ks)) (F : Nat → Prop) (a1 : Option Addr) (c1 : Nat) (a2 : Option Addr) (c2 : Nat) (w : World) (hF : ∀ b, F b → b < w.heap.size) (hr1 : Ac F w a1 (valsD l)) (hr2 : Ac F w a2 (Aq ks)) :
  Calls Tryz.prog 110 #[.agg #[.int .i64 k, .int .i64 n, .string s, .slice a1 l.length c1, .slice a2 ks.length c2]] w (Mt (.mk k n s l ks) w) := by
 have aN : Below w.heap.size w (w.alloc (.cells #[.int .i64 k, .int .i64 n, .string s, .slice a1 l.length c1, .slice a2 ks.length c2] 31)) := (Below.refl _ w).alloc (nlr _) _;have H0 := Lq7 (heap_alloc_new w (.cells #[.int .i64 k, .int .i64 n, .string s, .slice a1 l.length c1, .slice a2 ks.length c2] 31));have aQ := Lq7 (Em (.mk k n s l ks) hs F a1 c1 a2 c2 _ (fun b hb => nll (hF b hb) aN.size) (hr1.below aN) (hr2.below aN));have aR := Lq7 aN;have bC := Lq7 (hr1.below aN);unfold vCells at aQ;have Hz : Hid (∀ x ∈ l, smallV x) := Lq7 (by rw [smallV] at hs; exact fun x hx => smallVs_mem hs.2.2.2.2 hx);have hlen : l.length ≤ 140737488355328 := (by rw [smallV] at hs; exact hs.2.1);clear hs hF hr1 hr2 aN;by_cases hk : k = 4
 ·subst hk;cases hck : checkV (.mk 4 n s l ks) with
  | false =>
   have Ht : Hid (textsL (.mk 4 n s l ks) = none) := Lq7 (by unfold textsL; rw [if_neg (fun h => by rw [hck] at h; exact absurd h.2.1 (by decide))]);rw [hck] at aQ;clear hck;go_enter Tryz.func110, Tryz.ntmps110;go_wp2_with fail;refine aQ.out.mono ?_;rintro e w1 ⟨rfl, aM⟩;have aX := Lq7 (aR.out.trans (aM.mono aR.out.size));clear aM;go_wp2_with fail;refine bodyPost_ret (v := .tuple #[.slice none 0 0, .bool false]) (by simp [results, Tryz.results110, go_sem]) rfl ?_;unfold Mt;rw [Ht.out];exact ⟨aX.out, rfl⟩
  | true =>
   have Ht : Hid (textsL (.mk 4 n s l ks) = if l.all (fun x => x.kind == 3) = true then some (l.map Vl.str) else none) := Lq7 (by
    unfold textsL;by_cases h : l.all (fun x => x.kind == 3) = true
    ·rw [if_pos ⟨rfl, hck, h⟩, if_pos h]; rfl
    ·rw [if_neg (fun h' => h h'.2.2), if_neg h])
   rw [hck] at aQ;have hl1 : l.length ≤ 1000 := (En hck).2.1;clear hck hlen;obtain ⟨i0, hi, hz0, hz1, hz2⟩ := info_parts infoStr;go_enter Tryz.func110, Tryz.ntmps110;go_wp2_with fail;refine aQ.out.mono ?_;rintro e w1 ⟨rfl, aM⟩;have aX := Lq7 (aR.out.trans (aM.mono aR.out.size));have H1 := Lq7 (stays H0.out aM);have Hr := Lq7 (bC.out.below aM);clear aM H0 aR bC aQ;obtain ⟨q0, q1, q2, q3, q4, q5, q6, q7, q8, q9, q10⟩ := five_facts H1.out;have hw1 : w.heap.size + 1 ≤ w1.heap.size := (by have := here H1.out; omega);go_wp2_with fail
   go_loopw [4, 18] (fun v i wr => ∃ j : Nat, i = .int .i64 j ∧ j ≤ l.length ∧ Hid (OwnS wr w1.heap.size v ((l.take j).map Vl.str)) ∧ Hid (Below w1.heap.size w1 wr) ∧ Hid ((l.take j).all (fun x => x.kind == 3) = true)) (fun _ i _ => l.length - (intOf i).toNat)
   case atStart => exact ⟨0, rfl, nlz _, Lq7 (OwnS.nil _ _), Lq7 (Below.refl _ _), Lq7 rfl⟩
   case round =>
    obtain ⟨j, rfl, hj, hown, aF, aB⟩ := hrel;by_cases hlt : j < l.length
    ·cases hx : l[j] with
     | mk xk xn xs xl xks =>
      have aY : l[j]? = some (.mk xk xn xs xl xks) := (by rw [lgE hlt, hx]);obtain ⟨b, off, b1, e1, b2, e2, hae, -, hbl, r0, r1, r2, r3, r4, -, -⟩ := (Hr.out.below aF.out).val aY;have aU : l.take (j + 1) = l.take j ++ [.mk xk xn xs xl xks] := (by rw [ltA, aY]; rfl);have hzx : xs.size ≤ 9223372036854775807 := by
       have := Hz.out _ (lgM aY);rw [smallV] at this;exact this.1.1
      subst hae;have Hq := Lq7 (stays H1.out aF.out);obtain ⟨aL, cL, rfl, -, -⟩ := hown.out.strsAt;rw [lnM, lnT, Nat.min_eq_left hj] at hown ⊢;clear hx aY;by_cases hk3 : xk = 3
      ·subst hk3;have aG : OwnS (wr.alloc (.cells #[.int .i64 3, .int .i64 xn, .string xs, .slice b1 xl.length e1, .slice b2 xks.length e2] 31)) w1.heap.size (.slice aL j cL) ((l.take j).map Vl.str) := hown.out.below ((Below.refl _ _).alloc (nlr _) _);have aC := lit_one (wr.alloc (.cells #[.int .i64 3, .int .i64 xn, .string xs, .slice b1 xl.length e1, .slice b2 xks.length e2] 31)) (.string xs) 9;rw [show (wr.alloc (.cells #[.int .i64 3, .int .i64 xn, .string xs, .slice b1 xl.length e1, .slice b2 xks.length e2] 31)).heap.size = wr.heap.size + 1 by simp] at aC;have aV := Lq7 aC;have aW : Hid (((wr.alloc (.cells #[.int .i64 3, .int .i64 xn, .string xs, .slice b1 xl.length e1, .slice b2 xks.length e2] 31)).alloc (.cells #[.string xs] 9)).ownsRow w1.heap.size 9 1 (.slice aL j cL) j (((l.take j).map Vl.str).map Value.string)) := Lq7 (by
        have := aG.below ((Below.refl _ _).alloc (nlr _) (.cells #[.string xs] 9));unfold OwnS at this;rw [lnM, lnT, Nat.min_eq_left hj] at this;exact this)
       have aZ : Hid (∀ g, (Value.slice aL j cL).ownBlock = some g → w1.heap.size ≤ g) := Lq7 (fun g hg => (hown.out.block hg).1);have hall' : Hid ((l.take (j + 1)).all (fun x => x.kind == 3) = true) := Lq7 (by rw [aU, List.all_append, aB.out]; rfl);have Htk : Hid ((l.take (j + 1)).map Vl.str = (l.take j).map Vl.str ++ [xs]) := Lq7 (by rw [aU, List.map_append]; rfl);have hsz := aF.out.size;clear aC aG aU hown aB
       go_wp2_with (at_builtin; refine wpList_append_own _ rfl _ _ 29 rfl w1.heap.size 9 i0 (.string ByteArray.empty) 1 16 Tryz.underlying29 hi hz0 hz1 hz2 rfl (by decide) (.slice aL j cL) j _ rfl aW.out ⟨wr.heap.size + 1, 0, none⟩ 1 1 [.string xs] rfl rfl aV.out ?_ ?_ ?_ ?_ ?_)
       ·simp [Value.oneCell']
       ·unfold maxLen; omega
       ·omega
       ·simp; omega
       intro v2 w2 aH aE _;have aI : Hid (OwnS w2 w1.heap.size v2 ((l.take (j + 1)).map Vl.str)) := Lq7 (by
        rw [Htk.out];unfold OwnS;rw [lnA, lnM, lnT, Nat.min_eq_left hj, List.map_append]
        simpa using aH)
       have bA : Hid (Below w1.heap.size w1 w2) := Lq7 ((aF.out.trans ((((Below.refl _ wr).alloc (nlr _) _).alloc (by simp) _).mono hsz)).trans (A9 aE aZ.out (by simp; omega)));obtain ⟨aL2, cL2, rfl, -, -⟩ := aI.out.strsAt;clear aH aE aF;go_wp2_with fail;go_roundw
       case rel => exact ⟨j + 1, by go_num, by omega, aI, bA, hall'⟩
       case measure => simp only [intOf]; omega
      ·have hk3' : (xk != 3) = true := (by simpa using hk3);have Hn : Hid (textsL (.mk 4 n s l ks) = none) := Lq7 (by
        rw [Ht.out, if_neg];intro h;rw [List.all_eq_true] at h;have hm : Vl.mk xk xn xs xl xks ∈ l := by
         have : Vl.mk xk xn xs xl xks ∈ l.take (j + 1) := (by rw [aU]; simp);exact List.mem_of_mem_take this
        have := h _ hm;exact hk3 (by simpa [Vl.kind] using this))
       clear aU;go_wp2_with fail;refine bodyPost_ret (v := .tuple #[.slice none 0 0, .bool false]) (by simp [results, Tryz.results110, go_sem]) rfl ?_;unfold Mt;rw [Hn.out];exact ⟨aX.out.trans ((aF.out.trans ((Below.refl _ wr).alloc (nlr _) _ |>.mono aF.out.size)).mono (by omega)), rfl⟩
    ·have aJ : l.take j = l := ltL (by omega);rw [aJ] at hown aB;have bB : Hid (textsL (.mk 4 n s l ks) = some (l.map Vl.str)) := Lq7 (by rw [Ht.out, if_pos aB.out]);have hown' := hown.out.lower (base' := w.heap.size) (by omega);have Hown' := Lq7 hown';obtain ⟨aL, cL, rfl, -, -⟩ := hown'.strsAt;clear hown' hown aB aJ;go_wp2_with fail;refine bodyPost_ret (v := .tuple #[.slice aL (l.map Vl.str).length cL, .bool true]) (by simp [results, Tryz.results110, go_sem]) rfl ?_;unfold Mt;rw [bB.out];exact ⟨aX.out.trans (aF.out.mono (by omega)), _, rfl, Hown'.out⟩
 ·have Ht : Hid (textsL (.mk k n s l ks) = none) := Lq7 (by unfold textsL; rw [if_neg (fun h => hk h.1)]);have hk' : (k != 4) = true := (by simpa using hk);go_enter Tryz.func110, Tryz.ntmps110;go_wp2_with fail;refine bodyPost_ret (v := .tuple #[.slice none 0 0, .bool false]) (by simp [results, Tryz.results110, go_sem]) rfl ?_;unfold Mt;rw [Ht.out];exact ⟨aR.out, rfl⟩
def PInt (w : World) (e : Ending) (w' : World) : Prop := (∃ n : Int, e = .returned (.int .i64 n)) ∧ Below w.heap.size w w'
def PSome (w : World) (e : Ending) (w' : World) : Prop := (∃ b : Bool, e = .returned (.bool b)) ∧ Below w.heap.size w w'
def Ol (v : Vl) : Prop := ∀ (F : Nat → Prop) (a1 : Option Addr) (c1 : Nat) (a2 : Option Addr) (c2 : Nat) (w : World), Ac F w a1 (valsD v.items) → Ac F w a2 (Aq v.keys) →
 Calls Tryz.prog 19 #[.agg #[.int .i64 v.kind, .int .i64 v.num, .string v.str, .slice a1 v.items.length c1, .slice a2 v.keys.length c2], .int .i64 60] w (PInt w)
def LongC (v : Vl) : Prop := ∀ (F : Nat → Prop) (a1 : Option Addr) (c1 : Nat) (a2 : Option Addr) (c2 : Nat) (w : World), Ac F w a1 (valsD v.items) → Ac F w a2 (Aq v.keys) →
 Calls Tryz.prog 20 #[.agg #[.int .i64 v.kind, .int .i64 v.num, .string v.str, .slice a1 v.items.length c1, .slice a2 v.keys.length c2]] w (PSome w)
theorem Rl (k n1 : Int) (s : ByteArray) (l : List Vl) (ks : List ByteArray) (hl : l.length ≤ 140737488355328) (hit : ∀ x ∈ l, Ol x) (F : Nat → Prop) (a1 : Option Addr) (c1 : Nat) (a2 : Option Addr) (c2 : Nat) (w : World) (hr1 : Ac F w a1 (valsD l)) (_hr2 : Ac F w a2 (Aq ks)) :
  Calls Tryz.prog 19 #[.agg #[.int .i64 k, .int .i64 n1, .string s, .slice a1 l.length c1, .slice a2 ks.length c2], .int .i64 60] w (PInt w) := by
 have aC : Below w.heap.size w (w.alloc (.cells #[.int .i64 k, .int .i64 n1, .string s, .slice a1 l.length c1, .slice a2 ks.length c2] 31)) := (Below.refl _ w).alloc (nlr _) _;have H0 := Lq7 (And.intro (heap_alloc_new w (.cells #[.int .i64 k, .int .i64 n1, .string s, .slice a1 l.length c1, .slice a2 ks.length c2] 31)) aC);have Hr := Lq7 hr1;have aJ := Lq7 hit;clear hr1 _hr2 hit aC;go_enter Tryz.func19, Tryz.ntmps19;go_wp2_with fail;generalize World.alloc _ _ = W0 at H0 ⊢
 go_loopw [5, 10] (fun n i wr => ∃ (N : Int) (j : Nat), n = .int .i64 N ∧ i = .int .i64 j ∧ j ≤ l.length ∧ Hid (wr.heap[w.heap.size]? = some (.cells #[.int .i64 k, .int .i64 n1, .string s, .slice a1 l.length c1, .slice a2 ks.length c2] 31 (0, 0)) ∧ Below w.heap.size w wr)) (fun _ i _ => l.length - (intOf i).toNat)
 case atStart => exact ⟨_, 0, rfl, rfl, nlz _, H0⟩
 case round =>
  obtain ⟨N, j, rfl, rfl, hj, aB⟩ := hrel;by_cases hlt : j < l.length
  ·by_cases hN : 60 < N
   ·have hN2 : ¬ N ≤ 60 := (by omega);go_wp2_with fail;go_ret;exact ⟨⟨_, rfl⟩, aB.out.2⟩
   ·have aF : l[j]? = some l[j] := lgE hlt;generalize l[j] = x at aF;have HC := Lq7 (aJ.out x (lgM aF));obtain ⟨xk, xn, xs, xl, xks⟩ := x;obtain ⟨b, off, b1, e1, b2, e2, rfl, -, hbl, r0, r1, r2, r3, r4, aH, aI⟩ := (Hr.out.below aB.out.2).val aF;have HK := Lq7 (HC.out F b1 e1 b2 e2 wr aH aI);obtain ⟨q0, q1, q2, q3, q4, q5, -⟩ := five_facts aB.out.1;clear aF HC aH aI;go_wp2_with fail;refine HK.out.mono ?_;rintro e w2 ⟨⟨M, rfl⟩, aE⟩;have aG := Lq7 (And.intro (stays aB.out.1 aE) (aB.out.2.trans (aE.mono aB.out.2.size)));clear aE aB HK r0 r1 r2 r3 r4 q0 q1 q2 q3 q4 q5;go_wp2_with fail;go_roundw
    case rel => exact ⟨_, j + 1, rfl, by go_num, by omega, aG⟩
    case measure => simp only [intOf]; omega
  ·go_wp2_with fail;go_ret;exact ⟨⟨_, rfl⟩, aB.out.2⟩
theorem Rm (v : Vl) : smallV v → Ol v :=
 Vl.rec (motive_1 := fun v => smallV v → Ol v) (motive_2 := fun l => smallVs l → ∀ x ∈ l, Ol x)
  (fun k n s l ks ih h F a1 c1 a2 c2 w hr1 hr2 => by rw [smallV] at h; exact Rl k n s l ks h.2.1 (ih h.2.2.2.2) F a1 c1 a2 c2 w hr1 hr2)
  (fun _ x hx => by cases hx)
  (fun v t hv ht h x hx => by
   rw [smallVs] at h;rcases List.mem_cons.1 hx with rfl | hx
   ·exact hv h.1
   ·exact ht h.2 x hx) v
theorem Uc (k n1 : Int) (s : ByteArray) (l : List Vl) (ks : List ByteArray) (_hz : s.size ≤ 9223372036854775807) (hl : l.length ≤ 140737488355328) (hkl : ks.length ≤ 140737488355328) (hkz : ∀ x ∈ ks, x.size ≤ 9223372036854775807) (hit : ∀ x ∈ l, LongC x) (F : Nat → Prop) (a1 : Option Addr) (c1 : Nat) (a2 : Option Addr) (c2 : Nat) (w : World) (hr1 : Ac F w a1 (valsD l)) (hr2 : Ac F w a2 (Aq ks)) :
  Calls Tryz.prog 20 #[.agg #[.int .i64 k, .int .i64 n1, .string s, .slice a1 l.length c1, .slice a2 ks.length c2]] w (PSome w) := by
 have aC : Below w.heap.size w (w.alloc (.cells #[.int .i64 k, .int .i64 n1, .string s, .slice a1 l.length c1, .slice a2 ks.length c2] 31)) := (Below.refl _ w).alloc (nlr _) _;have H0 := Lq7 (And.intro (heap_alloc_new w (.cells #[.int .i64 k, .int .i64 n1, .string s, .slice a1 l.length c1, .slice a2 ks.length c2] 31)) aC);have Hr := Lq7 hr1;have Hk := Lq7 hr2.strs;have aJ := Lq7 hit;have Hkz := Lq7 hkz;clear hr1 hr2 hit aC hkz;by_cases h1 : (100 : Int) < s.size
 ·go_enter Tryz.func20, Tryz.ntmps20;go_wp2_with fail;go_ret;exact ⟨⟨_, rfl⟩, H0.out.2⟩
 by_cases h2 : (60 : Int) < ks.length
 ·go_enter Tryz.func20, Tryz.ntmps20;go_wp2_with fail;go_ret;exact ⟨⟨_, rfl⟩, H0.out.2⟩
 go_enter Tryz.func20, Tryz.ntmps20;go_wp2_with fail;generalize World.alloc _ _ = W0 at H0 ⊢
 go_loop [18] (fun i => ∃ j : Nat, i = .int .i64 j ∧ j ≤ ks.length) (fun i => ks.length - (intOf i).toNat)
 case atStart => exact ⟨0, rfl, nlz _⟩
 case round =>
  obtain ⟨j, rfl, hj⟩ := hrel;obtain ⟨q0, q1, q2, q3, q4, q5, -⟩ := five_facts H0.out.1;by_cases hlt : j < ks.length
  ·obtain ⟨b, off, rfl, hc⟩ := (Hk.out.below H0.out.2).at hlt;have hxz := Hkz.out _ (List.getElem_mem hlt);generalize ks[j] = x at hc hxz;by_cases hbig : (100 : Int) < x.size
   ·go_wp2_with fail;go_ret;exact ⟨⟨_, rfl⟩, H0.out.2⟩
   ·go_wp2_with fail;go_round
    case rel => exact ⟨j + 1, by go_num, by omega⟩
    case measure => simp only [intOf]; omega
  ·go_wp2_with fail;clear q0 q1 q2 q3 q4 q5
   go_loopw [32] (fun i wr => ∃ j : Nat, i = .int .i64 j ∧ j ≤ l.length ∧ Hid (wr.heap[w.heap.size]? = some (.cells #[.int .i64 k, .int .i64 n1, .string s, .slice a1 l.length c1, .slice a2 ks.length c2] 31 (0, 0)) ∧ Below w.heap.size w wr)) (fun i _ => l.length - (intOf i).toNat)
   case atStart => exact ⟨0, rfl, nlz _, H0⟩
   case round =>
    obtain ⟨i, rfl, hi, aB⟩ := hrel;by_cases hlt2 : i < l.length
    ·have aF : l[i]? = some l[i] := lgE hlt2;generalize l[i] = x at aF;have HC := Lq7 (aJ.out x (lgM aF));obtain ⟨xk, xn, xs, xl, xks⟩ := x;obtain ⟨b, off, b1, e1, b2, e2, rfl, -, hbl, r0, r1, r2, r3, r4, aH, aI⟩ := (Hr.out.below aB.out.2).val aF;have HK := Lq7 (HC.out F b1 e1 b2 e2 wr aH aI);obtain ⟨q0, q1, q2, q3, q4, q5, -⟩ := five_facts aB.out.1;clear aF HC aH aI;go_wp2_with fail;refine HK.out.mono ?_;rintro e w2 ⟨⟨bb, rfl⟩, aE⟩;have aG := Lq7 (And.intro (stays aB.out.1 aE) (aB.out.2.trans (aE.mono aB.out.2.size)));clear aE aB HK r0 r1 r2 r3 r4 q0 q1 q2 q3 q4 q5;cases bb with
     | true =>
      go_wp2_with fail;go_ret;exact ⟨⟨_, rfl⟩, aG.out.2⟩
     | false =>
      go_wp2_with fail;go_roundw
      case rel => exact ⟨i + 1, by go_num, by omega, aG⟩
      case measure => simp only [intOf]; omega
    ·go_wp2_with fail;go_ret;exact ⟨⟨_, rfl⟩, aB.out.2⟩
theorem long_any (v : Vl) : smallV v → LongC v :=
 Vl.rec (motive_1 := fun v => smallV v → LongC v) (motive_2 := fun l => smallVs l → ∀ x ∈ l, LongC x)
  (fun k n s l ks ih h F a1 c1 a2 c2 w hr1 hr2 => by rw [smallV] at h; exact Uc k n s l ks h.1.1 h.2.1 h.2.2.1 h.2.2.2.1 (ih h.2.2.2.2) F a1 c1 a2 c2 w hr1 hr2)
  (fun _ x hx => by cases hx)
  (fun v t hv ht h x hx => by
   rw [smallVs] at h;rcases List.mem_cons.1 hx with rfl | hx
   ·exact hv h.1
   ·exact ht h.2 x hx) v
theorem P2 (k n1 : Int) (s : ByteArray) (l : List Vl) (ks : List ByteArray) (hs : smallV (.mk k n1 s l ks)) (F : Nat → Prop) (a1 : Option Addr) (c1 : Nat) (a2 : Option Addr) (c2 : Nat) (w : World) (hr1 : Ac F w a1 (valsD l)) (hr2 : Ac F w a2 (Aq ks)) :
  Calls Tryz.prog 6 #[.agg #[.int .i64 k, .int .i64 n1, .string s, .slice a1 l.length c1, .slice a2 ks.length c2]] w (PSome w) := by
 have aC : Below w.heap.size w (w.alloc (.cells #[.int .i64 k, .int .i64 n1, .string s, .slice a1 l.length c1, .slice a2 ks.length c2] 31)) := (Below.refl _ w).alloc (nlr _) _;have H0 := Lq7 (And.intro (heap_alloc_new w (.cells #[.int .i64 k, .int .i64 n1, .string s, .slice a1 l.length c1, .slice a2 ks.length c2] 31)) aC);have HC := Lq7 (Rm _ hs F a1 c1 a2 c2 _ (hr1.below aC) (hr2.below aC));have HL := Lq7 (fun W (h : Below w.heap.size w W) => long_any _ hs F a1 c1 a2 c2 W (hr1.below h) (hr2.below h));clear aC hr1 hr2 hs;go_enter Tryz.func6, Tryz.ntmps6;go_wp2_with fail;refine HC.out.mono ?_;rintro e w1 ⟨⟨N, rfl⟩, aM⟩;have H1 := Lq7 (And.intro (stays H0.out.1 aM) (H0.out.2.trans (aM.mono H0.out.2.size)));clear aM H0 HC;by_cases hN : 60 < N
 ·go_wp2_with fail;go_ret;exact ⟨⟨_, rfl⟩, H1.out.2⟩
 ·obtain ⟨q0, q1, q2, q3, q4, q5, -⟩ := five_facts H1.out.1;have HL1 := Lq7 (HL.out w1 H1.out.2);clear HL;go_wp2_with fail;refine HL1.out.mono ?_;rintro e w2 ⟨⟨bb, rfl⟩, aE⟩;have Hb2 := Lq7 (H1.out.2.trans (aE.mono H1.out.2.size));clear aE;go_wp2_with fail;go_ret;exact ⟨⟨_, rfl⟩, Hb2.out⟩
def PYes (w : World) (e : Ending) (w' : World) : Prop := e = .returned (.bool true) ∧ Below w.heap.size w w'
def SameC (v : Vl) : Prop := ∀ (F : Nat → Prop) (a1 : Option Addr) (c1 : Nat) (a2 : Option Addr) (c2 : Nat) (g1 : Option Addr) (d1 : Nat) (g2 : Option Addr) (d2 : Nat) (w : World), Ac F w a1 (valsD v.items) → Ac F w a2 (Aq v.keys) → Ac F w g1 (valsD v.items) → Ac F w g2 (Aq v.keys) →
 Calls Tryz.prog 10 #[.agg #[.int .i64 v.kind, .int .i64 v.num, .string v.str, .slice a1 v.items.length c1, .slice a2 v.keys.length c2], .agg #[.int .i64 v.kind, .int .i64 v.num, .string v.str, .slice g1 v.items.length d1, .slice g2 v.keys.length d2]] w (PYes w)
theorem Vr (k n : Int) (s : ByteArray) (l : List Vl) (ks : List ByteArray) (hl : l.length ≤ 140737488355328) (hkl : ks.length ≤ 140737488355328) (hit : ∀ x ∈ l, SameC x) (F : Nat → Prop) (a1 : Option Addr) (c1 : Nat) (a2 : Option Addr) (c2 : Nat) (g1 : Option Addr) (d1 : Nat) (g2 : Option Addr) (d2 : Nat) (w : World) (hr1 : Ac F w a1 (valsD l)) (hr2 : Ac F w a2 (Aq ks)) (hg1 : Ac F w g1 (valsD l)) (hg2 : Ac F w g2 (Aq ks)) :
  Calls Tryz.prog 10 #[.agg #[.int .i64 k, .int .i64 n, .string s, .slice a1 l.length c1, .slice a2 ks.length c2], .agg #[.int .i64 k, .int .i64 n, .string s, .slice g1 l.length d1, .slice g2 ks.length d2]] w (PYes w) := by
 obtain ⟨h1, h2, h3, h4⟩ := F2 w (.cells #[.int .i64 k, .int .i64 n, .string s, .slice a1 l.length c1, .slice a2 ks.length c2] 31) (.cells #[.int .i64 k, .int .i64 n, .string s, .slice g1 l.length d1, .slice g2 ks.length d2] 31);have H0 := Lq7 (And.intro h1 (And.intro h2 h3));have Hr := Lq7 (And.intro hr1 hg1);have Hk := Lq7 (And.intro hr2.strs hg2.strs);have Hit := Lq7 hit;have hf1 : (k != k) = false := (by simp);have hf2 : (n != n) = false := (by simp);clear h1 h2 h3 h4 hr1 hr2 hg1 hg2 hit;go_enter Tryz.func10, Tryz.ntmps10;go_wp2_with fail;generalize World.alloc _ _ = W0 at H0 ⊢;clear hf1 hf2
 go_loopw [47] (fun i wr => ∃ j q : Nat, i = .int .i64 j ∧ j ≤ ks.length ∧ wr = W0.drewN q) (fun i _ => ks.length - (intOf i).toNat)
 case atStart => exact ⟨0, 0, rfl, nlz _, rfl⟩
 case round =>
  obtain ⟨j, q, rfl, hj, rfl⟩ := hrel;obtain ⟨q0, q1, q2, q3, q4, q5, -⟩ := five_facts H0.out.1;obtain ⟨p0, p1, p2, p3, p4, p5, -⟩ := five_facts H0.out.2.1;by_cases hlt : j < ks.length
  ·obtain ⟨b, off, rfl, hc⟩ := (Hk.out.1.below H0.out.2.2).at hlt;obtain ⟨b', off', rfl, hc'⟩ := (Hk.out.2.below H0.out.2.2).at hlt;generalize ks[j] = x at hc hc';go_wp2_with fail
   go_quiet (fail)
   go_wp2_with fail;go_roundw
   case rel => exact ⟨j + 1, q + nq, by go_num, by omega, rfl⟩
   case measure => simp only [intOf]; omega
  ·go_wp2_with fail;clear q0 q1 q2 q3 q4 q5 p0 p1 p2 p3 p4 p5;have H1 : Hid ((W0.drewN q).heap[w.heap.size]? = some (.cells #[.int .i64 k, .int .i64 n, .string s, .slice a1 l.length c1, .slice a2 ks.length c2] 31 (0, 0)) ∧ (W0.drewN q).heap[w.heap.size + 1]? = some (.cells #[.int .i64 k, .int .i64 n, .string s, .slice g1 l.length d1, .slice g2 ks.length d2] 31 (0, 0)) ∧ Below w.heap.size w (W0.drewN q)) := Lq7 ⟨H0.out.1, H0.out.2.1, Bk H0.out.2.2 q⟩;clear H0;generalize W0.drewN q = W1 at H1 ⊢
   go_loopw [65] (fun i wr => ∃ j : Nat, i = .int .i64 j ∧ j ≤ l.length ∧ Hid (wr.heap[w.heap.size]? = some (.cells #[.int .i64 k, .int .i64 n, .string s, .slice a1 l.length c1, .slice a2 ks.length c2] 31 (0, 0)) ∧ wr.heap[w.heap.size + 1]? = some (.cells #[.int .i64 k, .int .i64 n, .string s, .slice g1 l.length d1, .slice g2 ks.length d2] 31 (0, 0)) ∧ Below w.heap.size w wr)) (fun i _ => l.length - (intOf i).toNat)
   case atStart => exact ⟨0, rfl, nlz _, H1⟩
   case round =>
    clear hlt hj;obtain ⟨i, rfl, hi, aB⟩ := hrel;obtain ⟨q0, q1, q2, q3, q4, q5, -⟩ := five_facts aB.out.1;obtain ⟨p0, p1, p2, p3, p4, p5, -⟩ := five_facts aB.out.2.1;by_cases hlt2 : i < l.length
    ·have aC : l[i]? = some l[i] := lgE hlt2;generalize l[i] = x at aC;have HC := Lq7 (Hit.out x (lgM aC));obtain ⟨xk, xn, xs, xl, xks⟩ := x;have aF : Below wr.heap.size wr wr.drew := (Below.refl _ wr).drew;have H2 := Lq7 (And.intro (stays aB.out.1 aF) (And.intro (stays aB.out.2.1 aF) (aB.out.2.2.trans (aF.mono aB.out.2.2.size))));obtain ⟨b, off, x1, e1, x2, e2, hae, -, hbl, r0, r1, r2, r3, r4, aI, aJ⟩ := (Hr.out.1.below H2.out.2.2).val aC;obtain ⟨b', off', x3, e3, x4, e4, hae', -, hbl', t0, t1, t2, t3, t4, aM, aN⟩ := (Hr.out.2.below H2.out.2.2).val aC;subst hae;subst hae';have HK := Lq7 (HC.out F x1 e1 x2 e2 x3 e3 x4 e4 wr.drew aI aJ aM aN);clear aC HC aI aJ aM aN aB aF q0 q1 q2 q3 q4 q5 p0 p1 p2 p3 p4 p5;go_wp2_with fail;refine Ae (.s 0 (.s 1 (.s 2 (.s 3 (.s 4 (.s 5 (.s 6 (.s 7 (.s 8 (.s 9 (.h 10 (.s 11 .nil)))))))))))) 99 (fun W' => Below wr.drew.heap.size wr.drew W') (by kernel_rfl) (by kernel_rfl) (fun c a d v w h => by cases d <;> exact h) (Below.refl _ _) ?_
     generalize wr.drew = Wd at *;refine Aa (.pointer (some ⟨w.heap.size, 3, none⟩)) rfl rfl (fun W' hS => ?_) ?_
     ·obtain ⟨z0, z1, z2, z3, z4, z5, -⟩ := five_facts (stays H2.out.1 hS);clear hS;go_simp
     (try simp only [lgA, lgC, aP, laA, lsA, lsB]);refine Aa (.slice (some ⟨b, off, none⟩) l.length c1) rfl rfl (fun W' hS => ?_) ?_
     ·obtain ⟨z0, z1, z2, z3, z4, z5, -⟩ := five_facts (stays H2.out.1 hS);clear hS;go_simp
     (try simp only [lgA, lgB, lgC, aP, laA, lsA, lsB]);refine Aa (.int .i64 i) rfl rfl (fun W' hS => ?_) ?_
     ·go_simp
     (try simp only [lgA, lgB, lgC, aP, laA, lsA, lsB]);refine Aa (.pointer (some ⟨b, off + i * 5, none⟩)) rfl rfl (fun W' hS => ?_) ?_
     ·go_simp
     (try simp only [lgA, lgB, lgC, aP, laA, lsA, lsB]);refine Aa (.agg #[.int .i64 xk, .int .i64 xn, .string xs, .slice x1 xl.length e1, .slice x2 xks.length e2]) rfl rfl (fun W' hS => ?_) ?_
     ·have z0 := (hS.cell (p := ⟨b, off + i * 5, none⟩) hbl).trans r0;have z1 := (hS.cell (p := ⟨b, off + i * 5 + 1, none⟩) hbl).trans r1;have z2 := (hS.cell (p := ⟨b, off + i * 5 + 2, none⟩) hbl).trans r2;have z3 := (hS.cell (p := ⟨b, off + i * 5 + 3, none⟩) hbl).trans r3;have z4 := (hS.cell (p := ⟨b, off + i * 5 + 4, none⟩) hbl).trans r4;clear hS;go_simp
     (try simp only [lgA, lgB, lgC, aP, laA, lsA, lsB]);refine Aa (.pointer (some ⟨w.heap.size + 1, 3, none⟩)) rfl rfl (fun W' hS => ?_) ?_
     ·obtain ⟨z0, z1, z2, z3, z4, z5, -⟩ := five_facts (stays H2.out.2.1 hS);clear hS;go_simp
     (try simp only [lgA, lgB, lgC, aP, laA, lsA, lsB]);refine Aa (.slice (some ⟨b', off', none⟩) l.length d1) rfl rfl (fun W' hS => ?_) ?_
     ·obtain ⟨z0, z1, z2, z3, z4, z5, -⟩ := five_facts (stays H2.out.2.1 hS);clear hS;go_simp
     (try simp only [lgA, lgB, lgC, aP, laA, lsA, lsB]);refine Aa (.int .i64 i) rfl rfl (fun W' hS => ?_) ?_
     ·go_simp
     (try simp only [lgA, lgB, lgC, aP, laA, lsA, lsB]);refine Aa (.pointer (some ⟨b', off' + i * 5, none⟩)) rfl rfl (fun W' hS => ?_) ?_
     ·go_simp
     (try simp only [lgA, lgB, lgC, aP, laA, lsA, lsB]);refine Aa (.agg #[.int .i64 xk, .int .i64 xn, .string xs, .slice x3 xl.length e3, .slice x4 xks.length e4]) rfl rfl (fun W' hS => ?_) ?_
     ·have z0 := (hS.cell (p := ⟨b', off' + i * 5, none⟩) hbl').trans t0;have z1 := (hS.cell (p := ⟨b', off' + i * 5 + 1, none⟩) hbl').trans t1;have z2 := (hS.cell (p := ⟨b', off' + i * 5 + 2, none⟩) hbl').trans t2;have z3 := (hS.cell (p := ⟨b', off' + i * 5 + 3, none⟩) hbl').trans t3;have z4 := (hS.cell (p := ⟨b', off' + i * 5 + 4, none⟩) hbl').trans t4;clear hS;go_simp
     (try simp only [lgA, lgB, lgC, aP, laA, lsA, lsB]);clear r0 r1 r2 r3 r4 t0 t1 t2 t3 t4;refine Ad rfl (fun K10 aG => ?_);go_wp2_with fail;refine HK.out.mono ?_;rintro e w2 ⟨rfl, aE⟩;have aH := Lq7 (And.intro (stays H2.out.1 aE) (And.intro (stays H2.out.2.1 aE) (H2.out.2.2.trans (aE.mono H2.out.2.2.size))));have Hb2 := Lq7 aE;clear aE H2 HK hbl hbl';go_wp2_with fail;refine aG _ _ (fun _ => Hb2.out) ?_;(try simp only [lgA, lgB, lgC, aP, laA, lsA, lsB]);refine Aa (.bool false) rfl rfl (fun W' hS => ?_) ?_
     ·go_simp
     (try simp only [lgA, lgB, lgC, aP, laA, lsA, lsB]);refine Ak ?_;(try simp only [lgA, lgB, lgC, aP, laA, lsA, lsB]);go_wp2_with fail;go_roundw
     case rel => exact ⟨i + 1, by go_num, by omega, aH⟩
     case measure => simp only [intOf]; omega
    ·go_wp2_with fail;go_ret;exact ⟨rfl, aB.out.2.2⟩
theorem Sz (v : Vl) : smallV v → SameC v :=
 Vl.rec (motive_1 := fun v => smallV v → SameC v) (motive_2 := fun l => smallVs l → ∀ x ∈ l, SameC x)
  (fun k n s l ks ih h F a1 c1 a2 c2 g1 d1 g2 d2 w hr1 hr2 hg1 hg2 => by rw [smallV] at h; exact Vr k n s l ks h.2.1 h.2.2.1 (ih h.2.2.2.2) F a1 c1 a2 c2 g1 d1 g2 d2 w hr1 hr2 hg1 hg2)
  (fun _ x hx => by cases hx)
  (fun v t hv ht h x hx => by
   rw [smallVs] at h;rcases List.mem_cons.1 hx with rfl | hx
   ·exact hv h.1
   ·exact ht h.2 x hx) v
theorem cntVs_append : ∀ a b : List Vl, cntVs (a ++ b) = cntVs a + cntVs b
 | [], b => by rw [List.nil_append, cntVs]; omega
 | v :: t, b => by rw [List.cons_append, cntVs, cntVs, cntVs_append t b]; omega
theorem L6 {l : List Vl} {j : Nat} {x : Vl} (h : l[j]? = some x) : cntVs (l.take (j + 1)) = cntVs (l.take j) + cntV x ∧ cntVs (l.take j) + cntV x ≤ cntVs l ∧ 0 ≤ cntVs (l.take j) := by
 have h1 : l.take (j + 1) = l.take j ++ [x] := (by rw [ltA, h]; rfl);have h2 : cntVs (l.take (j + 1)) = cntVs (l.take j) + cntV x := (by rw [h1, cntVs_append, cntVs, cntVs]; omega);have h3 : cntVs l = cntVs (l.take (j + 1)) + cntVs (l.drop (j + 1)) := (by rw [← cntVs_append, List.take_append_drop]);have h4 := Cy (l.drop (j + 1));exact ⟨h2, by omega, Cy _⟩
theorem Km {l : List Vl} {j : Nat} {x : Vl} (hl : nodesRs l = true) (h : l[j]? = some x) : nodesR x = true := by
 induction l generalizing j with
 | nil => simp at h
 | cons v t ih =>
  rw [nodesRs, Bool.and_eq_true] at hl;cases j with
  | zero => simp at h; subst h; exact hl.1
  | succ j => exact ih (j := j) hl.2 (by simpa using h)
def ManyC (v : Vl) : Prop := ∀ (F : Nat → Prop) (a1 : Option Addr) (c1 : Nat) (a2 : Option Addr) (c2 : Nat) (m : Int) (w : World), Ac F w a1 (valsD v.items) → Ac F w a2 (Aq v.keys) → cntV v ≤ m → m ≤ 20000 →
 Calls Tryz.prog 21 #[.agg #[.int .i64 v.kind, .int .i64 v.num, .string v.str, .slice a1 v.items.length c1, .slice a2 v.keys.length c2], .int .i64 m] w (fun e w' => e = .returned (.int .i64 (cntV v)) ∧ Below w.heap.size w w')
def DeepC (v : Vl) : Prop := ∀ (F : Nat → Prop) (a1 : Option Addr) (c1 : Nat) (a2 : Option Addr) (c2 : Nat) (m : Int) (w : World), Ac F w a1 (valsD v.items) → Ac F w a2 (Aq v.keys) → dpV v ≤ 60 → 0 ≤ m → m ≤ 60 →
 Calls Tryz.prog 22 #[.agg #[.int .i64 v.kind, .int .i64 v.num, .string v.str, .slice a1 v.items.length c1, .slice a2 v.keys.length c2], .int .i64 m] w (fun e w' => (∃ d : Int, e = .returned (.int .i64 d) ∧ 0 ≤ d ∧ d ≤ dpV v) ∧ Below w.heap.size w w')
def ManyX (v : Vl) : Prop := ∀ (F : Nat → Prop) (a1 : Option Addr) (c1 : Nat) (a2 : Option Addr) (c2 : Nat) (m : Int) (w : World), Ac F w a1 (valsD v.items) → Ac F w a2 (Aq v.keys) → 0 ≤ m → m ≤ 20000 →
 Calls Tryz.prog 21 #[.agg #[.int .i64 v.kind, .int .i64 v.num, .string v.str, .slice a1 v.items.length c1, .slice a2 v.keys.length c2], .int .i64 m] w (fun e w' => e = .returned (.int .i64 (manyR v m)) ∧ Below w.heap.size w w')
theorem R1 (k n1 : Int) (s : ByteArray) (l : List Vl) (ks : List ByteArray) (hl : l.length ≤ 140737488355328) (hit : ∀ x ∈ l, ManyX x) (F : Nat → Prop) (a1 : Option Addr) (c1 : Nat) (a2 : Option Addr) (c2 : Nat) (m : Int) (w : World) (hr1 : Ac F w a1 (valsD l)) (_hr2 : Ac F w a2 (Aq ks)) (hm : 0 ≤ m) (hm2 : m ≤ 20000) :
  Calls Tryz.prog 21 #[.agg #[.int .i64 k, .int .i64 n1, .string s, .slice a1 l.length c1, .slice a2 ks.length c2], .int .i64 m] w (fun e w' => e = .returned (.int .i64 (manyRs l m 1)) ∧ Below w.heap.size w w') := by
 have aJ : Below w.heap.size w (w.alloc (.cells #[.int .i64 k, .int .i64 n1, .string s, .slice a1 l.length c1, .slice a2 ks.length c2] 31)) := (Below.refl _ w).alloc (nlr _) _;have H0 := Lq7 (And.intro (heap_alloc_new w (.cells #[.int .i64 k, .int .i64 n1, .string s, .slice a1 l.length c1, .slice a2 ks.length c2] 31)) aJ);have Hr := Lq7 hr1;have aQ := Lq7 hit;clear hr1 _hr2 hit aJ;generalize hR : manyRs l m 1 = R;have HR := Lq7 hR;clear hR;go_enter Tryz.func21, Tryz.ntmps21;go_wp2_with fail;generalize World.alloc _ _ = W0 at H0 ⊢
 go_loopw [5, 6] (fun n i wr => ∃ (N : Int) (j : Nat), n = .int .i64 N ∧ i = .int .i64 j ∧ j ≤ l.length ∧ 1 ≤ N ∧ N ≤ m + 1 ∧ Hid (manyRs (l.drop j) m N = R) ∧ Hid (wr.heap[w.heap.size]? = some (.cells #[.int .i64 k, .int .i64 n1, .string s, .slice a1 l.length c1, .slice a2 ks.length c2] 31 (0, 0)) ∧ Below w.heap.size w wr)) (fun _ i _ => l.length - (intOf i).toNat)
 case atStart => exact ⟨1, 0, rfl, rfl, nlz _, by omega, by omega, Lq7 (by rw [List.drop_zero]; exact HR.out), H0⟩
 case round =>
  obtain ⟨N, j, rfl, rfl, hj, aU, aV, hN, aB⟩ := hrel;obtain ⟨q0, q1, q2, q3, q4, q5, -⟩ := five_facts aB.out.1;by_cases hlt : j < l.length
  ·by_cases hle : N ≤ m
   ·have aE : l[j]? = some l[j] := lgE hlt;have hd : l.drop j = l[j] :: l.drop (j + 1) := List.drop_eq_getElem_cons hlt;generalize l[j] = x at aE hd;have HC := Lq7 (aQ.out x (lgM aE));obtain ⟨g1, g2, -⟩ := F3 x (m - N) (by omega);have aC := hN.out;rw [hd, manyRs, if_pos hle] at aC;have aG := Lq7 aC;obtain ⟨xk, xn, xs, xl, xks⟩ := x;obtain ⟨b, off, b1, e1, b2, e2, rfl, -, hbl, r0, r1, r2, r3, r4, aM, aN⟩ := (Hr.out.below aB.out.2).val aE;have HK := Lq7 (HC.out F b1 e1 b2 e2 (m - N) wr aM aN (by omega) (by omega));generalize manyR (.mk xk xn xs xl xks) (m - N) = cx at HK aG g1 g2;clear aE HC aM aN hN aC hd;go_wp2_with fail;refine HK.out.mono ?_;rintro e w2 ⟨rfl, aH⟩;have aF := Lq7 (And.intro (stays aB.out.1 aH) (aB.out.2.trans (aH.mono aB.out.2.size)));clear aH aB HK r0 r1 r2 r3 r4 q0 q1 q2 q3 q4 q5;go_wp2_with fail;go_roundw
    case rel => exact ⟨N + cx, j + 1, by go_num, by go_num, by omega, by omega, by omega, aG, aF⟩
    case measure => simp only [intOf]; omega
   ·have hd : l.drop j = l[j] :: l.drop (j + 1) := List.drop_eq_getElem_cons hlt;have aC := hN.out;rw [hd, manyRs, if_neg hle] at aC;have HN := Lq7 aC;clear hN aC hd;go_wp2_with fail;go_ret;exact ⟨congrArg (fun z => Ending.returned (Value.int .i64 z)) HN.out, aB.out.2⟩
  ·have hN' := hN.out;rw [List.drop_of_length_le (by omega), manyRs] at hN';have HN := Lq7 hN';clear hN hN';go_wp2_with fail;go_ret;exact ⟨congrArg (fun z => Ending.returned (Value.int .i64 z)) HN.out, aB.out.2⟩
theorem Uk (v : Vl) : smallV v → ManyX v :=
 Vl.rec (motive_1 := fun v => smallV v → ManyX v) (motive_2 := fun l => smallVs l → ∀ x ∈ l, ManyX x)
  (fun k n s l ks ih h F a1 c1 a2 c2 m w hr1 hr2 hm hm2 => by
   rw [smallV] at h;rw [manyR];exact R1 k n s l ks h.2.1 (ih h.2.2.2.2) F a1 c1 a2 c2 m w hr1 hr2 hm hm2)
  (fun _ x hx => by cases hx)
  (fun v t hv ht h x hx => by
   rw [smallVs] at h;rcases List.mem_cons.1 hx with rfl | hx
   ·exact hv h.1
   ·exact ht h.2 x hx) v
def DeepX (v : Vl) : Prop := ∀ (F : Nat → Prop) (a1 : Option Addr) (c1 : Nat) (a2 : Option Addr) (c2 : Nat) (m : Int) (w : World), Ac F w a1 (valsD v.items) → Ac F w a2 (Aq v.keys) → 0 ≤ m → m ≤ 60 →
 Calls Tryz.prog 22 #[.agg #[.int .i64 v.kind, .int .i64 v.num, .string v.str, .slice a1 v.items.length c1, .slice a2 v.keys.length c2], .int .i64 m] w (fun e w' => e = .returned (.int .i64 (deepR v m)) ∧ Below w.heap.size w w')
theorem R4 (k n1 : Int) (s : ByteArray) (l : List Vl) (ks : List ByteArray) (hl : l.length ≤ 140737488355328) (hit : ∀ x ∈ l, DeepX x) (F : Nat → Prop) (a1 : Option Addr) (c1 : Nat) (a2 : Option Addr) (c2 : Nat) (m : Int) (w : World) (hr1 : Ac F w a1 (valsD l)) (_hr2 : Ac F w a2 (Aq ks)) (hm : 0 ≤ m) (hm2 : m ≤ 60) :
  Calls Tryz.prog 22 #[.agg #[.int .i64 k, .int .i64 n1, .string s, .slice a1 l.length c1, .slice a2 ks.length c2], .int .i64 m] w (fun e w' => e = .returned (.int .i64 ((if 0 < m then deepRs l m 0 else 0) + 1)) ∧ Below w.heap.size w w') := by
 have aJ : Below w.heap.size w (w.alloc (.cells #[.int .i64 k, .int .i64 n1, .string s, .slice a1 l.length c1, .slice a2 ks.length c2] 31)) := (Below.refl _ w).alloc (nlr _) _;have H0 := Lq7 (And.intro (heap_alloc_new w (.cells #[.int .i64 k, .int .i64 n1, .string s, .slice a1 l.length c1, .slice a2 ks.length c2] 31)) aJ);have Hr := Lq7 hr1;have aQ := Lq7 hit;clear hr1 _hr2 hit aJ;by_cases hm0 : 0 < m
 case neg =>
  rw [if_neg hm0];go_enter Tryz.func22, Tryz.ntmps22;go_wp2_with fail;go_ret;exact ⟨rfl, H0.out.2⟩
 rw [if_pos hm0];generalize hR : deepRs l m 0 = R;have HR := Lq7 hR;clear hR;go_enter Tryz.func22, Tryz.ntmps22;go_wp2_with fail;generalize World.alloc _ _ = W0 at H0 ⊢
 go_loopw [5, 13] (fun n i wr => ∃ (N : Int) (j : Nat), n = .int .i64 N ∧ i = .int .i64 j ∧ j ≤ l.length ∧ 0 ≤ N ∧ N ≤ m ∧ Hid (deepRs (l.drop j) m N = R) ∧ Hid (wr.heap[w.heap.size]? = some (.cells #[.int .i64 k, .int .i64 n1, .string s, .slice a1 l.length c1, .slice a2 ks.length c2] 31 (0, 0)) ∧ Below w.heap.size w wr)) (fun _ i _ => l.length - (intOf i).toNat)
 case atStart => exact ⟨0, 0, rfl, rfl, nlz _, Int.le_refl _, by omega, Lq7 (by rw [List.drop_zero]; exact HR.out), H0⟩
 case round =>
  obtain ⟨N, j, rfl, rfl, hj, aU, aV, hN, aB⟩ := hrel;obtain ⟨q0, q1, q2, q3, q4, q5, -⟩ := five_facts aB.out.1;by_cases hlt : j < l.length
  ·have aE : l[j]? = some l[j] := lgE hlt;have hd : l.drop j = l[j] :: l.drop (j + 1) := List.drop_eq_getElem_cons hlt;generalize l[j] = x at aE hd;have HC := Lq7 (aQ.out x (lgM aE));obtain ⟨g1, g2, -⟩ := F4 x (m - 1) (by omega);have aC := hN.out;rw [hd, deepRs] at aC;have aG := Lq7 aC;obtain ⟨xk, xn, xs, xl, xks⟩ := x;obtain ⟨b, off, b1, e1, b2, e2, rfl, -, hbl, r0, r1, r2, r3, r4, aM, aN⟩ := (Hr.out.below aB.out.2).val aE;have HK := Lq7 (HC.out F b1 e1 b2 e2 (m - 1) wr aM aN (by omega) (by omega));generalize deepR (.mk xk xn xs xl xks) (m - 1) = cx at HK aG g1 g2;clear aE HC aM aN hN aC hd;go_wp2_with fail;refine HK.out.mono ?_;rintro e w2 ⟨rfl, aH⟩;have aF := Lq7 (And.intro (stays aB.out.1 aH) (aB.out.2.trans (aH.mono aB.out.2.size)));clear aH aB HK r0 r1 r2 r3 r4 q0 q1 q2 q3 q4 q5;by_cases hdn : N < cx
   ·have aI := aG.out;rw [if_pos hdn] at aI;have aR := Lq7 aI;clear aI aG;go_wp2_with fail;go_roundw
    case rel => exact ⟨cx, j + 1, rfl, by go_num, by omega, by omega, by omega, aR, aF⟩
    case measure => simp only [intOf]; omega
   ·have aI := aG.out;rw [if_neg hdn] at aI;have aR := Lq7 aI;clear aI aG;go_wp2_with fail;go_roundw
    case rel => exact ⟨N, j + 1, rfl, by go_num, by omega, aU, aV, aR, aF⟩
    case measure => simp only [intOf]; omega
  ·have hN' := hN.out;rw [List.drop_of_length_le (by omega), deepRs] at hN';have HN := Lq7 hN';clear hN hN';go_wp2_with fail;go_ret;exact ⟨congrArg (fun z => Ending.returned (Value.int .i64 (z + 1))) HN.out, aB.out.2⟩
theorem Ul (v : Vl) : smallV v → DeepX v :=
 Vl.rec (motive_1 := fun v => smallV v → DeepX v) (motive_2 := fun l => smallVs l → ∀ x ∈ l, DeepX x)
  (fun k n s l ks ih h F a1 c1 a2 c2 m w hr1 hr2 hm hm2 => by
   rw [smallV] at h;rw [deepR];exact R4 k n s l ks h.2.1 (ih h.2.2.2.2) F a1 c1 a2 c2 m w hr1 hr2 hm hm2)
  (fun _ x hx => by cases hx)
  (fun v t hv ht h x hx => by
   rw [smallVs] at h;rcases List.mem_cons.1 hx with rfl | hx
   ·exact hv h.1
   ·exact ht h.2 x hx) v
mutual
def shortV : Vl → Prop
 | .mk _ _ s l ks => s.size ≤ 100 ∧ ks.length ≤ 60 ∧ (∀ x ∈ ks, x.size ≤ 100) ∧ shortVs l
def shortVs : List Vl → Prop
 | [] => True
 | v :: t => shortV v ∧ shortVs t
end
theorem shortVs_of : ∀ {l : List Vl}, (∀ x ∈ l, shortV x) → shortVs l
 | [], _ => by rw [shortVs]; trivial
 | v :: t, h => by rw [shortVs]; exact ⟨h v (lmS ..), shortVs_of fun x hx => h x (lmO _ hx)⟩
theorem shortVs_mem : ∀ {l : List Vl} {x : Vl}, shortVs l → x ∈ l → shortV x
 | _ :: _, _, h, .head _ => by rw [shortVs] at h; exact h.1
 | _ :: _, _, h, .tail _ hm => by rw [shortVs] at h; exact shortVs_mem h.2 hm
def Om (v : Vl) : Prop := ∀ (F : Nat → Prop) (a1 : Option Addr) (c1 : Nat) (a2 : Option Addr) (c2 : Nat) (w : World), cntV v ≤ 20000 → Ac F w a1 (valsD v.items) → Ac F w a2 (Aq v.keys) →
 Calls Tryz.prog 19 #[.agg #[.int .i64 v.kind, .int .i64 v.num, .string v.str, .slice a1 v.items.length c1, .slice a2 v.keys.length c2], .int .i64 60] w (fun e w' => (∃ n : Int, e = .returned (.int .i64 n) ∧ 1 ≤ n ∧ n ≤ cntV v ∧ (n ≤ 60 → n = cntV v)) ∧ Below w.heap.size w w')
theorem P3 (k n1 : Int) (s : ByteArray) (l : List Vl) (ks : List ByteArray) (hl : l.length ≤ 140737488355328) (hc : cntVs l ≤ 19999) (hit : ∀ x ∈ l, Om x) (F : Nat → Prop) (a1 : Option Addr) (c1 : Nat) (a2 : Option Addr) (c2 : Nat) (w : World) (hr1 : Ac F w a1 (valsD l)) (_hr2 : Ac F w a2 (Aq ks)) :
  Calls Tryz.prog 19 #[.agg #[.int .i64 k, .int .i64 n1, .string s, .slice a1 l.length c1, .slice a2 ks.length c2], .int .i64 60] w (fun e w' => (∃ n : Int, e = .returned (.int .i64 n) ∧ 1 ≤ n ∧ n ≤ 1 + cntVs l ∧ (n ≤ 60 → n = 1 + cntVs l)) ∧ Below w.heap.size w w') := by
 have aE : Below w.heap.size w (w.alloc (.cells #[.int .i64 k, .int .i64 n1, .string s, .slice a1 l.length c1, .slice a2 ks.length c2] 31)) := (Below.refl _ w).alloc (nlr _) _;have H0 := Lq7 (And.intro (heap_alloc_new w (.cells #[.int .i64 k, .int .i64 n1, .string s, .slice a1 l.length c1, .slice a2 ks.length c2] 31)) aE);have Hr := Lq7 hr1;have aU := Lq7 hit;clear hr1 _hr2 hit aE;go_enter Tryz.func19, Tryz.ntmps19;go_wp2_with fail;generalize World.alloc _ _ = W0 at H0 ⊢
 go_loopw [5, 10] (fun n i wr => ∃ (N : Int) (j : Nat), n = .int .i64 N ∧ i = .int .i64 j ∧ j ≤ l.length ∧ (1 ≤ N ∧ N ≤ 20000) ∧ Hid (N ≤ 1 + cntVs (l.take j) ∧ (N ≤ 60 → N = 1 + cntVs (l.take j))) ∧ Hid (wr.heap[w.heap.size]? = some (.cells #[.int .i64 k, .int .i64 n1, .string s, .slice a1 l.length c1, .slice a2 ks.length c2] 31 (0, 0)) ∧ Below w.heap.size w wr)) (fun _ i _ => l.length - (intOf i).toNat)
 case atStart => exact ⟨1, 0, rfl, rfl, nlz _, ⟨by omega, by omega⟩, Lq7 (by rw [List.take_zero, cntVs]; exact ⟨by omega, fun _ => rfl⟩), H0⟩
 case round =>
  obtain ⟨N, j, rfl, rfl, hj, ⟨aW, hN9⟩, hN, aB⟩ := hrel;by_cases hlt : j < l.length
  ·by_cases hN1 : 60 < N
   ·have hN2 : ¬ N ≤ 60 := (by omega);have aC : l[j]? = some l[j] := lgE hlt;obtain ⟨g1, g2, g3⟩ := L6 aC;have g4 := Fj l[j];have Hle : Hid (N ≤ 1 + cntVs l) := Lq7 (by have := hN.out.1; omega);clear g1 g2 g3 g4 aC;go_wp2_with fail;go_ret;exact ⟨⟨_, rfl, aW, Hle.out, fun h => absurd h (by omega)⟩, aB.out.2⟩
   ·have aC : l[j]? = some l[j] := lgE hlt;generalize l[j] = x at aC;have HC := Lq7 (aU.out x (lgM aC));obtain ⟨g1, g2, g3⟩ := L6 aC;have g4 := Fj x;have aX := hN.out.2 (by omega);have hcx : cntV x ≤ 19999 := (by omega);have Hx : Hid (N = 1 + cntVs (l.take j) ∧ cntVs (l.take (j + 1)) = cntVs (l.take j) + cntV x) := Lq7 ⟨aX, g1⟩;obtain ⟨xk, xn, xs, xl, xks⟩ := x;obtain ⟨b, off, b1, e1, b2, e2, rfl, -, hbl, r0, r1, r2, r3, r4, aI, aJ⟩ := (Hr.out.below aB.out.2).val aC;have HK := Lq7 (HC.out F b1 e1 b2 e2 wr (by omega) aI aJ);obtain ⟨q0, q1, q2, q3, q4, q5, -⟩ := five_facts aB.out.1;have hsum : N + cntV (.mk xk xn xs xl xks) ≤ 20000 := (by omega);generalize cntV (.mk xk xn xs xl xks) = cx at *;clear aC HC aI aJ hN g1 g2 g3 aX;go_wp2_with fail;refine HK.out.mono ?_;rintro e w2 ⟨⟨M, rfl, hM0, hM1, aM⟩, aF⟩;have aG := Lq7 (And.intro (stays aB.out.1 aF) (aB.out.2.trans (aF.mono aB.out.2.size)));have HM : Hid (M ≤ 60 → M = cx) := Lq7 aM;clear aF aB HK r0 r1 r2 r3 r4 q0 q1 q2 q3 q4 q5 aM;go_wp2_with fail;go_roundw
    case rel => exact ⟨N + M, j + 1, by go_num, by go_num, by omega, ⟨by omega, by omega⟩, Lq7 ⟨by have := Hx.out; omega, fun h => by have := HM.out (by omega); have := Hx.out; omega⟩, aG⟩
    case measure => simp only [intOf]; omega
  ·have hN' := hN.out;rw [ltL (by omega)] at hN';have HN := Lq7 hN';clear hN hN';go_wp2_with fail;go_ret;exact ⟨⟨_, rfl, aW, HN.out.1, HN.out.2⟩, aB.out.2⟩
theorem Rn (v : Vl) : smallV v → Om v :=
 Vl.rec (motive_1 := fun v => smallV v → Om v) (motive_2 := fun l => smallVs l → ∀ x ∈ l, Om x)
  (fun k n s l ks ih h F a1 c1 a2 c2 w hc hr1 hr2 => by
   rw [smallV] at h;rw [cntV] at hc ⊢;exact P3 k n s l ks h.2.1 (by omega) (ih h.2.2.2.2) F a1 c1 a2 c2 w hr1 hr2)
  (fun _ x hx => by cases hx)
  (fun v t hv ht h x hx => by
   rw [smallVs] at h;rcases List.mem_cons.1 hx with rfl | hx
   ·exact hv h.1
   ·exact ht h.2 x hx) v
def NoE (P : Prop) (w : World) (e : Ending) (w' : World) : Prop := (∃ b : Bool, e = .returned (.bool b) ∧ (b = false → P)) ∧ Below w.heap.size w w'
def LongX (v : Vl) : Prop := ∀ (F : Nat → Prop) (a1 : Option Addr) (c1 : Nat) (a2 : Option Addr) (c2 : Nat) (w : World), Ac F w a1 (valsD v.items) → Ac F w a2 (Aq v.keys) →
 Calls Tryz.prog 20 #[.agg #[.int .i64 v.kind, .int .i64 v.num, .string v.str, .slice a1 v.items.length c1, .slice a2 v.keys.length c2]] w (NoE (shortV v) w)
theorem Ro (k n1 : Int) (s : ByteArray) (l : List Vl) (ks : List ByteArray) (hz : s.size ≤ 9223372036854775807) (hl : l.length ≤ 140737488355328) (hkl : ks.length ≤ 140737488355328) (hkz : ∀ x ∈ ks, x.size ≤ 9223372036854775807) (hit : ∀ x ∈ l, LongX x) (F : Nat → Prop) (a1 : Option Addr) (c1 : Nat) (a2 : Option Addr) (c2 : Nat) (w : World) (hr1 : Ac F w a1 (valsD l)) (hr2 : Ac F w a2 (Aq ks)) :
  Calls Tryz.prog 20 #[.agg #[.int .i64 k, .int .i64 n1, .string s, .slice a1 l.length c1, .slice a2 ks.length c2]] w (NoE (shortV (.mk k n1 s l ks)) w) := by
 have aE : Below w.heap.size w (w.alloc (.cells #[.int .i64 k, .int .i64 n1, .string s, .slice a1 l.length c1, .slice a2 ks.length c2] 31)) := (Below.refl _ w).alloc (nlr _) _;have H0 := Lq7 (And.intro (heap_alloc_new w (.cells #[.int .i64 k, .int .i64 n1, .string s, .slice a1 l.length c1, .slice a2 ks.length c2] 31)) aE);have Hr := Lq7 hr1;have Hk := Lq7 hr2.strs;have aU := Lq7 hit;have Hkz := Lq7 hkz;clear hr1 hr2 hit aE hkz;by_cases h1 : (100 : Int) < s.size
 ·go_enter Tryz.func20, Tryz.ntmps20;go_wp2_with fail;go_ret;exact ⟨⟨_, rfl, fun h => by cases h⟩, H0.out.2⟩
 by_cases h2 : (60 : Int) < ks.length
 ·go_enter Tryz.func20, Tryz.ntmps20;go_wp2_with fail;go_ret;exact ⟨⟨_, rfl, fun h => by cases h⟩, H0.out.2⟩
 go_enter Tryz.func20, Tryz.ntmps20;go_wp2_with fail;generalize World.alloc _ _ = W0 at H0 ⊢
 go_loop [18] (fun i => ∃ j : Nat, i = .int .i64 j ∧ j ≤ ks.length ∧ Hid (∀ x ∈ ks.take j, x.size ≤ 100)) (fun i => ks.length - (intOf i).toNat)
 case atStart => exact ⟨0, rfl, nlz _, Lq7 (fun x hx => by simp at hx)⟩
 case round =>
  obtain ⟨j, rfl, hj, hK⟩ := hrel;obtain ⟨q0, q1, q2, q3, q4, q5, -⟩ := five_facts H0.out.1;by_cases hlt : j < ks.length
  ·obtain ⟨b, off, rfl, hc⟩ := (Hk.out.below H0.out.2).at hlt;have hxz := Hkz.out _ (List.getElem_mem hlt);have aH : Hid (ks.take (j + 1) = ks.take j ++ [ks[j]]) := Lq7 (by rw [ltA, lgE hlt]; rfl);generalize ks[j] = x at hc hxz aH;by_cases hbig : (100 : Int) < x.size
   ·go_wp2_with fail;go_ret;exact ⟨⟨_, rfl, fun h => by cases h⟩, H0.out.2⟩
   ·have HK2 : Hid (∀ x ∈ ks.take (j + 1), x.size ≤ 100) := Lq7 (fun y hy => by
     rw [aH.out, List.mem_append, List.mem_singleton] at hy;rcases hy with hy | rfl
     ·exact hK.out y hy
     ·omega)
    clear hK aH;go_wp2_with fail;go_round
    case rel => exact ⟨j + 1, by go_num, by omega, HK2⟩
    case measure => simp only [intOf]; omega
  ·have aN : Hid (∀ x ∈ ks, x.size ≤ 100) := Lq7 (by have := hK.out; rwa [ltL (by omega)] at this);clear hK;go_wp2_with fail;clear q0 q1 q2 q3 q4 q5
   go_loopw [32] (fun i wr => ∃ j : Nat, i = .int .i64 j ∧ j ≤ l.length ∧ Hid (∀ x ∈ l.take j, shortV x) ∧ Hid (wr.heap[w.heap.size]? = some (.cells #[.int .i64 k, .int .i64 n1, .string s, .slice a1 l.length c1, .slice a2 ks.length c2] 31 (0, 0)) ∧ Below w.heap.size w wr)) (fun i _ => l.length - (intOf i).toNat)
   case atStart => exact ⟨0, rfl, nlz _, Lq7 (fun x hx => by simp at hx), H0⟩
   case round =>
    obtain ⟨i, rfl, hi, hI, aB⟩ := hrel;by_cases hlt2 : i < l.length
    ·have aC : l[i]? = some l[i] := lgE hlt2;have aH : Hid (l.take (i + 1) = l.take i ++ [l[i]]) := Lq7 (by rw [ltA, aC]; rfl);generalize l[i] = x at aC aH;have HC := Lq7 (aU.out x (lgM aC));obtain ⟨xk, xn, xs, xl, xks⟩ := x;obtain ⟨b, off, b1, e1, b2, e2, rfl, -, hbl, r0, r1, r2, r3, r4, aI, aJ⟩ := (Hr.out.below aB.out.2).val aC;have aY := Lq7 (HC.out F b1 e1 b2 e2 wr aI aJ);obtain ⟨q0, q1, q2, q3, q4, q5, -⟩ := five_facts aB.out.1;clear aC HC aI aJ;go_wp2_with fail;refine aY.out.mono ?_;rintro e w2 ⟨⟨bb, rfl, aZ⟩, aF⟩;have aG := Lq7 (And.intro (stays aB.out.1 aF) (aB.out.2.trans (aF.mono aB.out.2.size)));have bA := Lq7 aZ;clear aF aB aY r0 r1 r2 r3 r4 q0 q1 q2 q3 q4 q5 aZ;cases bb with
     | true =>
      go_wp2_with fail;go_ret;exact ⟨⟨_, rfl, fun h => by cases h⟩, aG.out.2⟩
     | false =>
      have HI2 : Hid (∀ x ∈ l.take (i + 1), shortV x) := Lq7 (fun y hy => by
       rw [aH.out, List.mem_append, List.mem_singleton] at hy;rcases hy with hy | rfl
       ·exact hI.out y hy
       ·exact bA.out rfl)
      clear hI aH bA;go_wp2_with fail;go_roundw
      case rel => exact ⟨i + 1, by go_num, by omega, HI2, aG⟩
      case measure => simp only [intOf]; omega
    ·have aQ : Hid (∀ x ∈ l, shortV x) := Lq7 (by have := hI.out; rwa [ltL (by omega)] at this);clear hI;go_wp2_with fail;go_ret;exact ⟨⟨_, rfl, fun _ => by rw [shortV]; exact ⟨by omega, by omega, aN.out, shortVs_of aQ.out⟩⟩, aB.out.2⟩
theorem Ud (v : Vl) : smallV v → LongX v :=
 Vl.rec (motive_1 := fun v => smallV v → LongX v) (motive_2 := fun l => smallVs l → ∀ x ∈ l, LongX x)
  (fun k n s l ks ih h F a1 c1 a2 c2 w hr1 hr2 => by rw [smallV] at h; exact Ro k n s l ks h.1.1 h.2.1 h.2.2.1 h.2.2.2.1 (ih h.2.2.2.2) F a1 c1 a2 c2 w hr1 hr2)
  (fun _ x hx => by cases hx)
  (fun v t hv ht h x hx => by
   rw [smallVs] at h;rcases List.mem_cons.1 hx with rfl | hx
   ·exact hv h.1
   ·exact ht h.2 x hx) v
theorem Rp (k n1 : Int) (s : ByteArray) (l : List Vl) (ks : List ByteArray) (hs : smallV (.mk k n1 s l ks)) (hc : cntV (.mk k n1 s l ks) ≤ 20000) (F : Nat → Prop) (a1 : Option Addr) (c1 : Nat) (a2 : Option Addr) (c2 : Nat) (w : World) (hr1 : Ac F w a1 (valsD l)) (hr2 : Ac F w a2 (Aq ks)) :
  Calls Tryz.prog 6 #[.agg #[.int .i64 k, .int .i64 n1, .string s, .slice a1 l.length c1, .slice a2 ks.length c2]] w (NoE (cntV (.mk k n1 s l ks) ≤ 60 ∧ shortV (.mk k n1 s l ks)) w) := by
 have aE : Below w.heap.size w (w.alloc (.cells #[.int .i64 k, .int .i64 n1, .string s, .slice a1 l.length c1, .slice a2 ks.length c2] 31)) := (Below.refl _ w).alloc (nlr _) _;have H0 := Lq7 (And.intro (heap_alloc_new w (.cells #[.int .i64 k, .int .i64 n1, .string s, .slice a1 l.length c1, .slice a2 ks.length c2] 31)) aE);have HC := Lq7 (Rn _ hs F a1 c1 a2 c2 _ hc (hr1.below aE) (hr2.below aE));have HL := Lq7 (fun W (h : Below w.heap.size w W) => Ud _ hs F a1 c1 a2 c2 W (hr1.below h) (hr2.below h));generalize cntV (.mk k n1 s l ks) = cx at *;clear aE hr1 hr2 hs;go_enter Tryz.func6, Tryz.ntmps6;go_wp2_with fail;refine HC.out.mono ?_;rintro e w1 ⟨⟨M, rfl, hM0, hM1, aM⟩, aV⟩;have HM := Lq7 aM;have H1 := Lq7 (And.intro (stays H0.out.1 aV) (H0.out.2.trans (aV.mono H0.out.2.size)));have bB := Lq7 (HL.out w1 H1.out.2);clear aV H0 HC HL aM;obtain ⟨q0, q1, q2, q3, q4, q5, -⟩ := five_facts H1.out.1;by_cases h60 : 60 < M
 ·go_wp2_with fail;go_ret;exact ⟨⟨_, rfl, fun h => by cases h⟩, H1.out.2⟩
 ·have aR : cx ≤ 60 := (by have := HM.out (by omega); omega);clear HM;go_wp2_with fail;refine bB.out.mono ?_;rintro e w2 ⟨⟨b, rfl, hb⟩, aF⟩;have H2 := Lq7 (And.intro hb (H1.out.2.trans (aF.mono H1.out.2.size)));clear aF hb H1 bB;go_wp2_with fail;go_ret;exact ⟨⟨_, rfl, fun h => ⟨aR, H2.out.1 (by revert h; cases b <;> simp)⟩⟩, H2.out.2⟩
end Go.Proofs.YtcofbdjakicojaaGreatDoor
