/-
  A law for a statement whose order Go leaves open, and that holds calls which write, or make memory: where each such call waits for all that stands ahead of it, one walk in the order of the text serves every order. The other operations only read, or call what only reads.
-/
import Derived.Deep.QuietTactic
import Derived.BigQuiet
import Derived.StillTail
namespace Go.Proofs.YthknljeffpbbmaaGreatDoor
open Go Go.RowKit

section
variable {P : Program} {ops : Array Oper} {md : Region.Mode} {hs : List Nat} {Q : Exit → Act → World → Prop}

/-- A world after some draws. -/
def Cls (w : World) : World → Prop := fun w' => ∃ n, w' = w.drewN n

def mixOp (P : Program) (ops : Array Oper) (hs : List Nat) (Q : Exit → Act → World → Prop) (i : Nat) (K : Act → World → Prop) (a : Act) (w : World) : Prop :=
  if hs.contains i then ∀ n, wpOp P ops Q i K a (w.drewN n) else qOp P ops (Cls w) i (fun a' => K a' w) a

/-- Whatever order is picked from here on: the operations of hs as they come, the others quiet. -/
def wpAnyM (P : Program) (md : Region.Mode) (ops : Array Oper) (hs : List Nat) (Q : Exit → Act → World → Prop) : Nat → Array Bool → Act → World → Prop
  | 0, listed, a, w => Region.ready md ops listed = [] ∧ ∀ n, Q .normal a (w.drewN n)
  | f + 1, listed, a, w => (Region.ready md ops listed = [] → ∀ n, Q .normal a (w.drewN n)) ∧ ∀ i ∈ Region.ready md ops listed, mixOp P ops hs Q i (wpAnyM P md ops hs Q f (listed.setIfInBounds i true)) a w

theorem wpAny_of_mix : ∀ (f : Nat) (listed : Array Bool) (a : Act) (w : World), wpAnyM P md ops hs Q f listed a w → ∀ n, wpAny P md ops Q f listed a (w.drewN n)
  | 0, _, _, _, h, n => ⟨h.1, h.2 n⟩
  | f + 1, listed, a, w, h, n => by
    refine ⟨fun h0 => h.1 h0 n, fun i hi => ?_⟩
    have hm := h.2 i hi
    unfold mixOp at hm
    split at hm
    · exact wpOp_mono (fun a' w' h' => wpAny_of_mix f _ a' w' h' 0) (hm n)
    · exact wpOp_of_qOp (C := Cls w) ⟨n, rfl⟩ (fun a' w' hw' h' => by obtain ⟨m, rfl⟩ := hw'; exact wpAny_of_mix f _ a' w h' m) hm

/-- Does operation h wait for i, by way of others too? -/
def waitsT (md : Region.Mode) (ops : Array Oper) : Nat → Nat → Nat → Bool
  | 0, _, _ => false
  | f + 1, h, i => Region.waitsFor md ops h i || (List.range ops.size).any fun j => Region.waitsFor md ops h j && waitsT md ops f j i

def Closed (md : Region.Mode) (ops : Array Oper) (listed : Array Bool) : Prop :=
  ∀ (j : Nat) oj, ops[j]? = some oj → listed.getD j false = true → ∀ e ∈ oj.after, Region.binds md e = true → listed.getD e.on false = true

theorem Closed.set {listed : Array Bool} (hc : Closed md ops listed) {i : Nat} (hi : i ∈ Region.ready md ops listed) : Closed md ops (listed.setIfInBounds i true) := by
  obtain ⟨_, oi, hoi, hall⟩ := mem_ready.1 hi
  intro j oj hj hl e he hb
  by_cases hij : i = j
  · subst hij
    obtain rfl : oj = oi := Option.some.inj (hj.symm.trans hoi)
    exact getD_set_true (hall e he hb)
  · rw [getD_set_ne false hij] at hl
    exact getD_set_true (hc j oj hj hl e he hb)

theorem waitsT_listed {listed : Array Bool} (hc : Closed md ops listed) : ∀ (f h i : Nat), waitsT md ops f h i = true → listed.getD h false = true → listed.getD i false = true
  | 0, _, _, hw, _ => by cases hw
  | f + 1, h, i, hw, hl => by
    simp only [waitsT, Bool.or_eq_true, List.any_eq_true, Bool.and_eq_true] at hw
    rcases hw with hw | ⟨j, _, hw, hr⟩
    · obtain ⟨o, ho, e, he, hb, hon⟩ := Region.waitsFor_spec hw
      have := hc h o ho hl e he hb
      rwa [hon] at this
    · obtain ⟨o, ho, e, he, hb, hon⟩ := Region.waitsFor_spec hw
      have := hc h o ho hl e he hb
      rw [hon] at this
      exact waitsT_listed hc f j i hr this

/-- What waits for an operation that hasn't come is not ready. -/
theorem waitsT_not_ready {listed : Array Bool} (hc : Closed md ops listed) {f h i : Nat} (hw : waitsT md ops f h i = true) (hi : listed.getD i false = false) : h ∉ Region.ready md ops listed := by
  intro hr
  obtain ⟨_, o, ho, hall⟩ := mem_ready.1 hr
  have hit : listed.getD i false = true := by
    cases f with
    | zero => cases hw
    | succ f =>
      simp only [waitsT, Bool.or_eq_true, List.any_eq_true, Bool.and_eq_true] at hw
      rcases hw with hw | ⟨j, _, hw, hr⟩
      · obtain ⟨o', ho', e, he, hb, hon⟩ := Region.waitsFor_spec hw
        obtain rfl : o' = o := Option.some.inj (ho'.symm.trans ho)
        have := hall e he hb
        rwa [hon] at this
      · obtain ⟨o', ho', e, he, hb, hon⟩ := Region.waitsFor_spec hw
        obtain rfl : o' = o := Option.some.inj (ho'.symm.trans ho)
        have := hall e he hb
        rw [hon] at this
        exact waitsT_listed hc f j i hr this
  rw [hi] at hit; cases hit

theorem wpAnyM_first {i : Nat} {oi : Oper} {v : Value} {w : World} (hi : ops[i]? = some oi) (hni : hs.contains i = false) (hsel : ∀ (j : Nat) (o : Oper) cs b, ops[j]? = some o → o.op ≠ .select cs b) :
    ∀ (f : Nat) (listed : Array Bool) (a : Act), Closed md ops listed →
      (∀ j oj, ops[j]? = some oj → j ≠ i → listed.getD j true = false → (∀ e ∈ oj.after, Region.binds md e = true → e.on ≠ i) → oi.apart ops oj = true) →
      (∀ h, hs.contains h = true → listed.getD h true = false → waitsT md ops ops.size h i = true) →
      i ∈ Region.ready md ops listed → YieldsIn P ops (Cls w) oi v a →
      wpAnyM P md ops hs Q f (listed.setIfInBounds i true) (a.put oi.dst v) w → wpAnyM P md ops hs Q (f + 1) listed a w := by
  have quietTurn : ∀ (f : Nat) (listed : Array Bool) (a : Act), YieldsIn P ops (Cls w) oi v a → wpAnyM P md ops hs Q f (listed.setIfInBounds i true) (a.put oi.dst v) w → mixOp P ops hs Q i (wpAnyM P md ops hs Q f (listed.setIfInBounds i true)) a w := by
    intro f listed a hy H
    unfold mixOp
    rw [hni, if_neg Bool.false_ne_true]
    exact hy.qOp hi H
  -- an operation that is ready beside i is quiet, too
  have quietJ : ∀ (listed : Array Bool), Closed md ops listed → (∀ h, hs.contains h = true → listed.getD h true = false → waitsT md ops ops.size h i = true) → i ∈ Region.ready md ops listed → ∀ j ∈ Region.ready md ops listed, hs.contains j = false := by
    intro listed hc hh hr j hj
    cases hcj : hs.contains j with
    | false => rfl
    | true => exact absurd hj (waitsT_not_ready hc (hh j hcj (mem_ready.1 hj).1) (getD_both (mem_ready.1 hr).1))
  intro f
  induction f with
  | zero =>
    intro listed a hc hfree hh hr hy H
    refine ⟨fun h => (by rw [h] at hr; cases hr), fun j hj => ?_⟩
    by_cases hji : j = i
    · subst hji; exact quietTurn 0 listed a hy H
    · have := ready_mono hj hji
      rw [H.1] at this
      cases this
  | succ f ih =>
    intro listed a hc hfree hh hr hy H
    refine ⟨fun h => (by rw [h] at hr; cases hr), fun j hj => ?_⟩
    by_cases hji : j = i
    · subst hji; exact quietTurn (f + 1) listed a hy H
    · have hnj := quietJ listed hc hh hr j hj
      have h1 := H.2 j (ready_mono hj hji)
      unfold mixOp at h1 ⊢
      rw [hnj, if_neg Bool.false_ne_true] at h1 ⊢
      obtain ⟨hjun, oj, hoj, hall⟩ := mem_ready.1 hj
      have hnot : ∀ e ∈ oj.after, Region.binds md e = true → e.on ≠ i := fun e he hb heq => by
        have h2 := hall e he hb
        rw [heq, getD_both (mem_ready.1 hr).1] at h2
        cases h2
      have h2 := qOp_put hoj (hfree j oj hoj hji hjun hnot) (fun cs b => hsel i oi cs b hi) (fun cs b => hsel j oj cs b hoj) hy h1
      refine qOp_mono (fun a' h3 => ih (listed.setIfInBounds j true) a' (hc.set hj) ?_ ?_ (ready_mono hr (Ne.symm hji)) h3.1 ?_) h2
      · intro k ok hk hki hun hno
        refine hfree k ok hk hki ?_ hno
        by_cases hjk : j = k
        · subst hjk; exact hjun
        · rw [getD_set_ne true hjk] at hun; exact hun
      · intro h hch hun
        refine hh h hch ?_
        by_cases hjh : j = h
        · subst hjh; exact hjun
        · rw [getD_set_ne true hjh] at hun; exact hun
      · rw [Array.setIfInBounds_comm _ _ hji]
        exact h3.2

/-- The walk in the order of the text. -/
def wpMixL (P : Program) (ops : Array Oper) (hs : List Nat) (Q : Exit → Act → World → Prop) : List Oper → Nat → Act → World → Prop
  | [], _, a, w => ∀ n, Q .normal a (w.drewN n)
  | o :: l, k, a, w =>
    if hs.contains k then ∀ n, (if Region.wanted o (yielded ops a.tmps) then o.wp P a (w.drewN n) (wpMixL P ops hs Q l (k + 1)) Q ∨ (o.asks P a (w.drewN n) ∧ LetsOut Q) else wpMixL P ops hs Q l (k + 1) (a.put o.dst undef) (w.drewN n))
    else if Region.wanted o (yielded ops a.tmps) then o.quiet P a (Cls w) (fun a' => wpMixL P ops hs Q l (k + 1) a' w) else wpMixL P ops hs Q l (k + 1) (a.put o.dst undef) w

/-- What is asked of the region: reckoned by the kernel. -/
def lexMix (md : Region.Mode) (ops : Array Oper) (hs : List Nat) : Nat → Nat → Array Bool → Bool
  | 0, _, listed => (Region.ready md ops listed).isEmpty
  | f + 1, k, listed =>
    (if hs.contains k then decide (Region.ready md ops listed = [k])
      else (Region.ready md ops listed).contains k && Region.free md ops listed k && hs.all fun h => listed.getD h true || waitsT md ops ops.size h k) &&
    lexMix md ops hs f (k + 1) (listed.setIfInBounds k true)

theorem wpAnyM_lex (hsel : Region.noSelect ops = true) : ∀ (l : List Oper) (k : Nat) (listed : Array Bool) (a : Act) (w : World), (∀ j, l[j]? = ops[k + j]?) → Closed md ops listed →
    lexMix md ops hs l.length k listed = true → wpMixL P ops hs Q l k a w → wpAnyM P md ops hs Q l.length listed a w
  | [], _, _, _, _, _, _, hB, h => ⟨by simpa [lexMix] using hB, h⟩
  | o :: l, k, listed, a, w, hl, hc, hB, h => by
    have h0 : ops[k]? = some o := by simpa using (hl 0).symm
    have hl' : ∀ j, l[j]? = ops[k + 1 + j]? := fun j => by have := hl (j + 1); simpa [Nat.add_assoc, Nat.add_comm 1 j] using this
    simp only [List.length_cons, lexMix, Bool.and_eq_true] at hB
    obtain ⟨hA, hB'⟩ := hB
    simp only [wpMixL] at h
    by_cases hk : hs.contains k = true
    · rw [if_pos hk] at hA h
      have hr : Region.ready md ops listed = [k] := of_decide_eq_true hA
      refine ⟨fun h1 => (by rw [hr] at h1; cases h1), fun i hi => ?_⟩
      have hik : i = k := by rw [hr] at hi; simpa using hi
      subst hik
      unfold mixOp
      rw [if_pos hk]
      intro n
      refine wpOp_mono (fun a' w' h' => wpAnyM_lex hsel l (i + 1) _ a' w' hl' (hc.set hi) hB' h') (K := wpMixL P ops hs Q l (i + 1)) ?_
      unfold wpOp
      simp only [h0]
      exact h n
    · rw [if_neg hk] at hA h
      simp only [Bool.and_eq_true] at hA
      obtain ⟨⟨hr, hf⟩, hw⟩ := hA
      have hr' : k ∈ Region.ready md ops listed := by simpa using hr
      have hq : qOp P ops (Cls w) k (fun a' => wpMixL P ops hs Q l (k + 1) a' w) a := by unfold qOp; simp only [h0]; exact h
      obtain ⟨v, hy, hK⟩ := yieldsIn_of_qOp h0 hq
      refine wpAnyM_first h0 (by simpa using hk) (Region.noSelect_spec hsel) l.length listed a hc (Region.free_spec h0 hf) ?_ hr' hy (wpAnyM_lex hsel l (k + 1) _ _ w hl' (hc.set hr') hB' hK)
      intro j hj hun
      have := List.all_eq_true.1 hw j (List.contains_iff_mem.1 hj)
      rw [hun, Bool.false_or] at this
      exact this

/-- **THE LAW.** hs: the places of the operations that write, in the region. -/
theorem wp_region_mix {id : Nat} {a : Act} {w : World} {l : List Oper} (hs : List Nat) (hm : P.follows .mixedOrders = true) (hB : (Region.noSelect l.toArray && lexMix .any l.toArray hs l.length 0 (Array.replicate l.length false)) = true)
    (h : wpMixL P l.toArray hs Q l 0 a w) : (Code.region id l.toArray true).wp P Q a w := by
  simp only [Bool.and_eq_true] at hB
  refine wp_region_any hm ?_
  have hc : Closed .any l.toArray (Array.replicate l.length false) := fun j oj _ hl => by rw [getD_replicate_false] at hl; cases hl
  have := wpAny_of_mix _ _ _ _ (wpAnyM_lex (md := .any) hB.1 l 0 (Array.replicate l.length false) a w (by simp) hc hB.2 h) 1
  rw [show l.toArray.size = l.length from by simp]
  exact this

/-- A stretch of m operations that only read. -/
theorem mix_quiet (m : Nat) : ∀ {l : List Oper} {k : Nat} {a : Act} {w : World}, ((List.range m).all fun i => !hs.contains (k + i)) = true →
    wpQuiet P ops (fun w' => ∃ n, w' = w.drewN n) (fun a' => wpMixL P ops hs Q (l.drop m) (k + m) a' w) (l.take m) a → wpMixL P ops hs Q l k a w := by
  induction m with
  | zero => intro l k a w _ h; simpa [wpQuiet] using h
  | succ m ih =>
    intro l k a w hk h
    cases l with
    | nil => simpa [wpQuiet, wpMixL] using h
    | cons o l =>
      have hk0 : hs.contains k = false := by
        have := List.all_eq_true.1 hk 0 (List.mem_range.2 (Nat.succ_pos m))
        simpa using this
      have hk' : ((List.range m).all fun i => !hs.contains (k + 1 + i)) = true := by
        rw [List.all_eq_true]
        intro i hi
        have := List.all_eq_true.1 hk (i + 1) (List.mem_range.2 (by have := List.mem_range.1 hi; omega))
        rwa [show k + (i + 1) = k + 1 + i by omega] at this
      simp only [List.take_succ_cons, List.drop_succ_cons, wpQuiet] at h
      simp only [wpMixL]
      rw [hk0, if_neg Bool.false_ne_true]
      split
      · rename_i hw
        rw [if_pos hw] at h
        refine Oper.quiet_mono (fun a' h' => ih hk' ?_) h
        rwa [show k + (m + 1) = k + 1 + m by omega] at h'
      · rename_i hw
        rw [if_neg hw] at h
        refine ih hk' ?_
        rwa [show k + (m + 1) = k + 1 + m by omega] at h

/-- An operation that writes. -/
theorem mix_heavy {o : Oper} {l : List Oper} {k : Nat} {a : Act} {w : World} (hk : hs.contains k = true)
    (h : ∀ (n : Nat) (K : Act → World → Prop), (∀ a2 w2, wpMixL P ops hs Q l (k + 1) a2 w2 → K a2 w2) → wpList P ops (Exit.then K Q) [o] a (w.drewN n)) : wpMixL P ops hs Q (o :: l) k a w := by
  simp only [wpMixL]
  rw [if_pos hk]
  intro n
  have h1 := h n (wpMixL P ops hs Q l (k + 1)) (fun _ _ h => h)
  simp only [wpList] at h1
  split
  · rename_i hw
    rw [if_pos hw] at h1
    rcases h1 with h1 | ⟨h1, h2⟩
    · left
      unfold Oper.wp at *
      generalize (execOp a.eval o).run P (w.drewN n) = r at *
      cases r with
      | ok x w' =>
        cases x <;> simp only [Oper.upon, Exit.then] at h1 ⊢ <;> first
          | exact h1
          | exact Calls.mono h1 (fun e w'' he => by cases e <;> first | exact he | (obtain ⟨a0, w0, q⟩ := he; exact ⟨a0, w0, q⟩))
      | halt x w' => cases x <;> simp only [Oper.upon, Exit.then] at h1 ⊢ <;> exact h1
    · right
      obtain ⟨a0, w0, q⟩ := h2
      exact ⟨h1, a0, w0, q⟩
  · rename_i hw
    rw [if_neg hw] at h1
    exact h1

theorem mix_end {k : Nat} {a : Act} {w : World} (h : ∀ n, Q .normal a (w.drewN n)) : wpMixL P ops hs Q [] k a w := h
end

end Go.Proofs.YthknljeffpbbmaaGreatDoor
