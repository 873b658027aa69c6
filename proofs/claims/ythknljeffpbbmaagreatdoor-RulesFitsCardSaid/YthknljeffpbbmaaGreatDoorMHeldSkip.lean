/-
  A law for a statement whose order Go leaves open: operations whose value is the same in every world that meets S (loads of what stays as it is, and what computes) are taken as the list says, the others (calls that write or break off, stores, new memory) where nothing else can come up. One walk serves every order, and a break is borne.
  A region by turns: what would write, and isn't wanted (its guard says no).
-/
import Derived.OrdersHeld
import Derived.RegionTactic
import Derived.BigQuiet
import Derived.Test.YthknljeffpbbmaaGreatDoorRegionMix
namespace Go.Proofs.YthknljeffpbbmaaGreatDoor
open Go Go.RowKit

section
variable {P : Program} {ops : Array Oper} {md : Region.Mode} {fin : Nat} {S : World → Prop} {Q : Exit → Act → World → Prop}

/-- The operations by turns: what is steady; what may write, where nothing else can come up; two of these, either of which may come up first. -/
inductive Tu where
  | nil
  | s (i : Nat) (t : Tu)
  | h (i : Nat) (t : Tu)
  | b (i : Nat) (t : Tu) (j : Nat) (u : Tu)
def Tu.isNil : Tu → Bool | .nil => true | _ => false
def Tu.deep : Tu → Nat | .nil => 0 | .s _ t => t.deep + 1 | .h _ t => t.deep + 1 | .b _ t _ u => max t.deep u.deep + 1

def wpHeldL (P : Program) (ops : Array Oper) (S : World → Prop) (Q : Exit → Act → World → Prop) (fin : Nat) : Tu → Act → World → Prop
  | .nil, a, w => Q .normal a w
  | .h i rest, a, w => wpOp P ops Q i (fun a' w' => (i ≠ fin → S w') ∧ wpHeldL P ops S Q fin rest a' w') a w
  | .s i rest, a, w => ∃ o v, ops[i]? = some o ∧ YieldsIf P ops S o v a ∧ wpHeldL P ops S Q fin rest (a.put o.dst v) w
  | .b i t j u, a, w => wpOp P ops Q i (fun a' w' => (i ≠ fin → S w') ∧ wpHeldL P ops S Q fin t a' w') a w ∧ wpOp P ops Q j (fun a' w' => (j ≠ fin → S w') ∧ wpHeldL P ops S Q fin u a' w') a w

/-- May they come up by these turns, whatever order is picked? -/
def okHeld (md : Region.Mode) (ops : Array Oper) (fin : Nat) : Tu → Array Bool → Bool
  | .nil, listed => (Region.ready md ops listed).isEmpty
  | .h i rest, listed => Region.ready md ops listed == [i] && (rest.isNil || decide (i ≠ fin)) && okHeld md ops fin rest (listed.setIfInBounds i true)
  | .s i rest, listed => Region.free md ops listed i && (Region.ready md ops listed).contains i && (decide (ops.size ≤ fin) || waitsT md ops ops.size fin i) && okHeld md ops fin rest (listed.setIfInBounds i true)
  | .b i t j u, listed => Region.ready md ops listed == [i, j] && (t.isNil || decide (i ≠ fin)) && (u.isNil || decide (j ≠ fin)) && okHeld md ops fin t (listed.setIfInBounds i true) && okHeld md ops fin u (listed.setIfInBounds j true)

/-- Whatever order is picked from here on; S stands behind each operation but number fin. -/
def wpAnyT (P : Program) (md : Region.Mode) (ops : Array Oper) (Q : Exit → Act → World → Prop) (S : World → Prop) (fin : Nat) : Nat → Array Bool → Act → World → Prop
  | 0, listed, a, w => Region.ready md ops listed = [] ∧ Q .normal a w
  | f + 1, listed, a, w => (Region.ready md ops listed = [] → Q .normal a w) ∧
    ∀ i ∈ Region.ready md ops listed, wpOp P ops Q i (fun a' w' => (i ≠ fin → S w') ∧ wpAnyT P md ops Q S fin f (listed.setIfInBounds i true) a' w') a w

theorem wpAny_of_turns : ∀ (f : Nat) (listed : Array Bool) (a : Act) (w : World), wpAnyT P md ops Q S fin f listed a w → wpAny P md ops Q f listed a w
  | 0, _, _, _, h => h
  | f + 1, _, _, _, h => ⟨h.1, fun i hi => wpOp_mono (fun a' w' h' => wpAny_of_turns f _ a' w' h'.2) (h.2 i hi)⟩

/-- What is steady may come first. -/
theorem wpAnyT_steady {i : Nat} {o : Oper} {v : Value} (ho : ops[i]? = some o) (hs : Region.noSelect ops = true) (hQ : ∀ c a w, Q (.panic c) (a.put o.dst v) w → Q (.panic c) a w)
    (hfin : ops.size ≤ fin ∨ waitsT md ops ops.size fin i = true) :
    ∀ (f : Nat) (listed : Array Bool) (a : Act) (w : World), Closed md ops listed → (∀ j oj, ops[j]? = some oj → j ≠ i → listed.getD j true = false → (∀ e ∈ oj.after, Region.binds md e = true → e.on ≠ i) → o.apart ops oj = true) →
      i ∈ Region.ready md ops listed → YieldsIf P ops S o v a → S w → wpAnyT P md ops Q S fin f (listed.setIfInBounds i true) (a.put o.dst v) w → wpAnyT P md ops Q S fin (f + 1) listed a w := by
  have hsel := Region.noSelect_spec hs
  intro f
  induction f with
  | zero =>
    intro listed a w _ _ hr hy hS H
    refine ⟨fun h => absurd (h ▸ hr) (by simp), fun j hj => ?_⟩
    by_cases e : j = i
    · cases e; exact hy.wpOp ho hS ⟨fun _ => hS, H⟩
    · exact absurd (H.1 ▸ ready_mono hj e) (by simp)
  | succ f ih =>
    intro listed a w hc hap hr hy hS H
    refine ⟨fun h => absurd (h ▸ hr) (by simp), fun j hj => ?_⟩
    by_cases e : j = i
    · cases e; exact hy.wpOp ho hS ⟨fun _ => hS, H⟩
    · have hir : i ∈ Region.ready md ops (listed.setIfInBounds j true) := ready_mono hr (Ne.symm e)
      have h0 := (mem_ready.1 hr).1
      obtain ⟨hjn, oj, hoj, hall⟩ := mem_ready.1 hj
      have hjf : j ≠ fin := fun q => by
        rcases hfin with h9 | h9
        · have := (Array.getElem?_eq_some_iff.1 hoj).1; omega
        · exact waitsT_not_ready hc h9 (getD_both h0) (q ▸ hj)
      have hno : ∀ d ∈ oj.after, Region.binds md d = true → d.on ≠ i := fun d hd hb hq => by
        have h1 := hall d hd hb
        rw [hq, getD_both h0] at h1
        cases h1
      refine wpOp_mono (fun a' w' h3 => ⟨h3.2.1, ih _ a' w' (hc.set hj) (fun k ok hk hki hun hn => hap k ok hk hki ?_ hn) hir h3.1 (h3.2.1 hjf) ?_⟩)
        (wpOp_putIf hoj (hap j oj hoj e hjn hno) (fun cs b => hsel i o cs b ho) (fun cs b => hsel j oj cs b hoj) hQ hy (H.2 j (ready_mono hj e)))
      · by_cases hjk : j = k
        · cases hjk; exact hjn
        · rwa [getD_set_ne true hjk] at hun
      · rw [Array.setIfInBounds_comm _ _ e]; exact h3.2.2

theorem wpAnyT_held (hs : Region.noSelect ops = true) (hQ : ∀ c a d v w, Q (.panic c) (a.put d v) w → Q (.panic c) a w) :
    ∀ (l : Tu) (f : Nat) (listed : Array Bool) (a : Act) (w : World), Closed md ops listed → okHeld md ops fin l listed = true → l.deep ≤ f → (l.isNil = false → S w) → wpHeldL P ops S Q fin l a w → wpAnyT P md ops Q S fin f listed a w
  | .nil, 0, listed, a, w, _, hk, _, _, h => ⟨by simpa [okHeld] using hk, h⟩
  | .nil, f + 1, listed, a, w, _, hk, _, _, h => ⟨fun _ => h, fun i hi => by
    have : Region.ready md ops listed = [] := by simpa [okHeld] using hk
    rw [this] at hi; cases hi⟩
  | .h i rest, 0, _, _, _, _, _, hl, _, _ => by simp [Tu.deep] at hl
  | .h i rest, f + 1, listed, a, w, hc, hk, hl, _, h => by
    simp only [okHeld, Bool.and_eq_true, beq_iff_eq, Bool.or_eq_true, decide_eq_true_eq] at hk
    refine ⟨fun h0 => absurd (hk.1.1 ▸ h0) (by simp), fun j hj => ?_⟩
    have hj2 := hj
    rw [hk.1.1] at hj2
    obtain rfl : j = i := by simpa using hj2
    refine wpOp_mono (fun a' w' h' => ⟨h'.1, wpAnyT_held hs hQ rest f _ a' w' (hc.set hj) hk.2 (by simpa [Tu.deep] using hl) (fun hne => ?_) h'.2⟩) h
    rcases hk.1.2 with h9 | h9
    · rw [h9] at hne; cases hne
    · exact h'.1 h9
  | .b i t k u, 0, _, _, _, _, _, hl, _, _ => by simp [Tu.deep] at hl
  | .b i t k u, f + 1, listed, a, w, hc, hk, hl, _, h => by
    simp only [okHeld, Bool.and_eq_true, beq_iff_eq, Bool.or_eq_true, decide_eq_true_eq] at hk
    obtain ⟨⟨⟨⟨hk1, hk2⟩, hk3⟩, hk4⟩, hk5⟩ := hk
    have hl1 : max t.deep u.deep ≤ f := by simpa [Tu.deep] using hl
    refine ⟨fun h0 => absurd (hk1 ▸ h0) (by simp), fun j hj => ?_⟩
    have hj2 := hj
    rw [hk1] at hj2
    obtain rfl | rfl : j = i ∨ j = k := by simpa using hj2
    · refine wpOp_mono (fun a' w' h' => ⟨h'.1, wpAnyT_held hs hQ t f _ a' w' (hc.set hj) hk4 (by omega) (fun hne => ?_) h'.2⟩) h.1
      rcases hk2 with h9 | h9
      · rw [h9] at hne; cases hne
      · exact h'.1 h9
    · refine wpOp_mono (fun a' w' h' => ⟨h'.1, wpAnyT_held hs hQ u f _ a' w' (hc.set hj) hk5 (by omega) (fun hne => ?_) h'.2⟩) h.2
      rcases hk3 with h9 | h9
      · rw [h9] at hne; cases hne
      · exact h'.1 h9
  | .s i rest, 0, _, _, _, _, _, hl, _, _ => by simp [Tu.deep] at hl
  | .s i rest, f + 1, listed, a, w, hc, hk, hl, hS, h => by
    simp only [okHeld, Bool.and_eq_true, Bool.or_eq_true, decide_eq_true_eq] at hk
    obtain ⟨o, v, ho, hy, h⟩ := h
    have hr : i ∈ Region.ready md ops listed := by simpa using hk.1.1.2
    exact wpAnyT_steady ho hs (fun c a w => hQ c a o.dst v w) hk.1.2 f listed a w hc (Region.free_spec ho hk.1.1.1) hr hy (hS rfl) (wpAnyT_held hs hQ rest f _ _ w (hc.set hr) hk.2 (by simpa [Tu.deep] using hl) (fun _ => hS rfl) h)

theorem wp_region_turns {id : Nat} {a : Act} {w : World} (l : Tu) (fin : Nat) (S : World → Prop) (hm : P.follows .mixedOrders = true)
    (hB : (Region.noSelect ops && okHeld .any ops fin l (Array.replicate ops.size false) && decide (l.deep ≤ ops.size)) = true)
    (hQ : ∀ c a d v w, Q (.panic c) (a.put d v) w → Q (.panic c) a w) (hS : S w.drew) (h : wpHeldL P ops S Q fin l a w.drew) : (Code.region id ops true).wp P Q a w := by
  simp only [Bool.and_eq_true, decide_eq_true_eq] at hB
  refine wp_region_any hm (wpAny_of_turns _ _ _ _ (wpAnyT_held hB.1.1 hQ l _ _ a w.drew (fun j oj hj hl => ?_) hB.1.2 hB.2 (fun _ => hS) h))
  rw [Array.getD_eq_getD_getElem?] at hl
  by_cases hjl : j < ops.size
  · simp [hjl] at hl
  · simp [hjl] at hl

theorem turn_steady {i : Nat} {o : Oper} {rest : Tu} {a : Act} {w : World} (v : Value) (ho : ops[i]? = some o) (hw : Region.wanted o (yielded ops a.tmps) = true) (hv : ∀ w, S w → (execOp a.eval o).run P w = .ok (.value v) w)
    (h : wpHeldL P ops S Q fin rest (a.put o.dst v) w) : wpHeldL P ops S Q fin (.s i rest) a w := ⟨o, v, ho, .inl ⟨hw, hv⟩, h⟩

theorem turn_heavy {i : Nat} {o : Oper} {rest : Tu} {a : Act} {w : World} (ho : ops[i]? = some o)
    (h : ∀ K : Act → World → Prop, (∀ a2 w2, (i ≠ fin → S w2) → wpHeldL P ops S Q fin rest a2 w2 → K a2 w2) → wpList P ops (Exit.then K Q) [o] a w) : wpHeldL P ops S Q fin (.h i rest) a w := by
  have h1 := h (fun a' w' => (i ≠ fin → S w') ∧ wpHeldL P ops S Q fin rest a' w') (fun _ _ h h' => ⟨h, h'⟩)
  show wpOp P ops Q i _ a w
  unfold wpOp
  rw [ho]
  show if Region.wanted o (yielded ops a.tmps) = true then _ else _
  simp only [wpList] at h1
  split
  · rename_i hw
    rw [if_pos hw] at h1
    rcases h1 with h1 | ⟨h1, h2⟩
    · left
      unfold Oper.wp at *
      generalize (execOp a.eval o).run P w = r at *
      cases r with
      | ok x w' =>
        cases x <;> simp only [Oper.upon, Exit.then] at h1 ⊢ <;> first
          | exact h1
          | exact Calls.mono h1 (fun e w'' he => by cases e <;> first | exact he | (obtain ⟨a0, w0, q⟩ := he; exact ⟨a0, w0, q⟩))
      | halt x w' => cases x <;> simp only [Oper.upon, Exit.then] at h1 ⊢ <;> exact h1
    · right
      obtain ⟨a0, w0, q⟩ := h2
      exact ⟨h1, a0, w0, q⟩
  · rename_i hw
    rw [if_neg hw] at h1
    exact h1
/-- What isn't wanted (its guard says no). -/
theorem turn_skip {i : Nat} {o : Oper} {rest : Tu} {a : Act} {w : World} (ho : ops[i]? = some o) (hw : Region.wanted o (yielded ops a.tmps) = false) (h : wpHeldL P ops S Q fin rest (a.put o.dst undef) w) : wpHeldL P ops S Q fin (.s i rest) a w := ⟨o, undef, ho, .inr ⟨hw, rfl⟩, h⟩
theorem turn_end {a : Act} {w : World} (h : Q .normal a w) : wpHeldL P ops S Q fin .nil a w := h
theorem turn_both {i j : Nat} {o o' : Oper} {t u : Tu} {a : Act} {w : World} (ho : ops[i]? = some o) (ho' : ops[j]? = some o')
    (h : ∀ K : Act → World → Prop, (∀ a2 w2, (i ≠ fin → S w2) → wpHeldL P ops S Q fin t a2 w2 → K a2 w2) → wpList P ops (Exit.then K Q) [o] a w)
    (h' : ∀ K : Act → World → Prop, (∀ a2 w2, (j ≠ fin → S w2) → wpHeldL P ops S Q fin u a2 w2 → K a2 w2) → wpList P ops (Exit.then K Q) [o'] a w) : wpHeldL P ops S Q fin (.b i t j u) a w :=
  ⟨turn_heavy (rest := t) ho h, turn_heavy (rest := u) ho' h'⟩
end
end Go.Proofs.YthknljeffpbbmaaGreatDoor
namespace Go.Proofs.YthknljeffpbbmaaGreatDoor
open Go Go.RowKit
section
variable {P : Program} {ops : Array Oper} {fin : Nat} {S : World → Prop} {Q : Exit → Act → World → Prop}
theorem turn_hskip {i : Nat} {o : Oper} {rest : Tu} {a : Act} {w : World} (ho : ops[i]? = some o) (hw : Region.wanted o (yielded ops a.tmps) = false) (hS : i ≠ fin → S w) (h : wpHeldL P ops S Q fin rest (a.put o.dst undef) w) : wpHeldL P ops S Q fin (.h i rest) a w := by
  refine turn_heavy ho fun K hK => ?_
  simp only [wpList]
  rw [if_neg (by rw [hw]; decide)]
  exact hK _ _ hS h
end
end Go.Proofs.YthknljeffpbbmaaGreatDoor
