/-
  The law of a region by turns, where what stands behind a break may hang on the frame, but not on what the region's operations write.
-/
import Derived.Test.YthknljeffpbbmaaGreatDoorMHeldSkip
import Derived.Defers
namespace Go.Proofs.YthknljeffpbbmaaGreatDoor
open Go Go.RowKit

section
variable {P : Program} {ops : Array Oper} {md : Region.Mode} {fin : Nat} {S : World → Prop} {Q : Exit → Act → World → Prop}
theorem wpAnyT_heldD (hs : Region.noSelect ops = true) (hQ : ∀ (i : Nat) (o : Oper), ops[i]? = some o → ∀ c a v w, Q (.panic c) (a.put o.dst v) w → Q (.panic c) a w) :
    ∀ (l : Tu) (f : Nat) (listed : Array Bool) (a : Act) (w : World), Closed md ops listed → okHeld md ops fin l listed = true → l.deep ≤ f → (l.isNil = false → S w) → wpHeldL P ops S Q fin l a w → wpAnyT P md ops Q S fin f listed a w
  | .nil, 0, listed, a, w, _, hk, _, _, h => ⟨by simpa [okHeld] using hk, h⟩
  | .nil, f + 1, listed, a, w, _, hk, _, _, h => ⟨fun _ => h, fun i hi => by
    have : Region.ready md ops listed = [] := by simpa [okHeld] using hk
    rw [this] at hi; cases hi⟩
  | .h i rest, 0, _, _, _, _, _, hl, _, _ => by simp [Tu.deep] at hl
  | .h i rest, f + 1, listed, a, w, hc, hk, hl, _, h => by
    simp only [okHeld, Bool.and_eq_true, beq_iff_eq, Bool.or_eq_true, decide_eq_true_eq] at hk
    refine ⟨fun h0 => absurd (hk.1.1 ▸ h0) (by simp), fun j hj => ?_⟩
    have hj2 := hj
    rw [hk.1.1] at hj2
    obtain rfl : j = i := by simpa using hj2
    refine wpOp_mono (fun a' w' h' => ⟨h'.1, wpAnyT_heldD hs hQ rest f _ a' w' (hc.set hj) hk.2 (by simpa [Tu.deep] using hl) (fun hne => ?_) h'.2⟩) h
    rcases hk.1.2 with h9 | h9
    · rw [h9] at hne; cases hne
    · exact h'.1 h9
  | .b i t k u, 0, _, _, _, _, _, hl, _, _ => by simp [Tu.deep] at hl
  | .b i t k u, f + 1, listed, a, w, hc, hk, hl, _, h => by
    simp only [okHeld, Bool.and_eq_true, beq_iff_eq, Bool.or_eq_true, decide_eq_true_eq] at hk
    obtain ⟨⟨⟨⟨hk1, hk2⟩, hk3⟩, hk4⟩, hk5⟩ := hk
    have hl1 : max t.deep u.deep ≤ f := by simpa [Tu.deep] using hl
    refine ⟨fun h0 => absurd (hk1 ▸ h0) (by simp), fun j hj => ?_⟩
    have hj2 := hj
    rw [hk1] at hj2
    obtain rfl | rfl : j = i ∨ j = k := by simpa using hj2
    · refine wpOp_mono (fun a' w' h' => ⟨h'.1, wpAnyT_heldD hs hQ t f _ a' w' (hc.set hj) hk4 (by omega) (fun hne => ?_) h'.2⟩) h.1
      rcases hk2 with h9 | h9
      · rw [h9] at hne; cases hne
      · exact h'.1 h9
    · refine wpOp_mono (fun a' w' h' => ⟨h'.1, wpAnyT_heldD hs hQ u f _ a' w' (hc.set hj) hk5 (by omega) (fun hne => ?_) h'.2⟩) h.2
      rcases hk3 with h9 | h9
      · rw [h9] at hne; cases hne
      · exact h'.1 h9
  | .s i rest, 0, _, _, _, _, _, hl, _, _ => by simp [Tu.deep] at hl
  | .s i rest, f + 1, listed, a, w, hc, hk, hl, hS, h => by
    simp only [okHeld, Bool.and_eq_true, Bool.or_eq_true, decide_eq_true_eq] at hk
    obtain ⟨o, v, ho, hy, h⟩ := h
    have hr : i ∈ Region.ready md ops listed := by simpa using hk.1.1.2
    exact wpAnyT_steady ho hs (fun c a w => hQ i o ho c a v w) hk.1.2 f listed a w hc (Region.free_spec ho hk.1.1.1) hr hy (hS rfl) (wpAnyT_heldD hs hQ rest f _ _ w (hc.set hr) hk.2 (by simpa [Tu.deep] using hl) (fun _ => hS rfl) h)

theorem wp_region_turnsD {id : Nat} {a : Act} {w : World} (l : Tu) (fin : Nat) (S : World → Prop) (hm : P.follows .mixedOrders = true)
    (hB : (Region.noSelect ops && okHeld .any ops fin l (Array.replicate ops.size false) && decide (l.deep ≤ ops.size)) = true)
    (hQ : ∀ (i : Nat) (o : Oper), ops[i]? = some o → ∀ c a v w, Q (.panic c) (a.put o.dst v) w → Q (.panic c) a w) (hS : S w.drew) (h : wpHeldL P ops S Q fin l a w.drew) : (Code.region id ops true).wp P Q a w := by
  simp only [Bool.and_eq_true, decide_eq_true_eq] at hB
  refine wp_region_any hm (wpAny_of_turns _ _ _ _ (wpAnyT_heldD hB.1.1 hQ l _ _ a w.drew (fun j oj hj hl => ?_) hB.1.2 hB.2 (fun _ => hS) h))
  rw [Array.getD_eq_getD_getElem?] at hl
  by_cases hjl : j < ops.size
  · simp [hjl] at hl
  · simp [hjl] at hl
end

/-- What leaves hangs on the frame by the results alone. -/
theorem leaves_same {P : Program} {fn : Func} {tmps tmps' : Array Value} {R : Ending → World → Prop} (hr : ∀ w, (results fn tmps).run P w = (results fn tmps').run P w) :
    ∀ (ds : List Deferred) (u : FrameMode) (w : World), Leaves P fn tmps R ds u w → Leaves P fn tmps' R ds u w
  | [], .returning, w, h => by obtain ⟨v, h1, h2⟩ := h; exact ⟨v, (hr w).symm.trans h1, h2⟩
  | [], .panicking _, _, h => h
  | [], .run, _, h => h
  | d :: ds, u, w, h => by
    obtain ⟨h0, fv, cap, f, args, h1, h2, h3⟩ := h
    refine ⟨h0, fv, cap, f, args, h1, h2, h3.mono fun e u' w' h4 => ?_⟩
    cases e with
    | returned v => exact leaves_same hr ds _ _ h4
    | panicked chain => exact leaves_same hr ds _ _ h4
    | outgrown => exact h4
end Go.Proofs.YthknljeffpbbmaaGreatDoor
