/-
  A law for 'for x := range seq { .. }' where the iterator keeps its place in variables of its own and writes them between two rounds. Ab: what the iterator does to the world by itself; Kp: what a round that goes on leaves as it was for the iterator; Nx pre x: x comes behind pre.
-/
import Derived.RangeFuncNested
import Derived.RangeFuncBound
import Derived.RangeFuncCalls
import Derived.RangeFuncLeaves
import Derived.Test.YthknljeffpbbmaaGreatDoorMParseBal
namespace Go.Proofs.YthknljeffpbbmaaGreatDoor
open Go Go.RowKit

/-- What the contract of such an iterator says. -/
def SeqOver {α : Type} (P : Program) (g : Nat) (lb : Array Value) (encs : α → Array Value) (Ab Kp : World → World → Prop) (Nx : List α → α → Prop) (S Sp : List α → Prop) (W : World) : Prop :=
  ∀ (l : Nat) (J Jx : List α → World → Prop), (∀ s A B, J s A → Ab A B → J s B) → (∀ s A B, Jx s A → Ab A B → Jx s B) →
    (∀ pre x A, J pre A → Nx pre x → YieldAt Fence.wide 0 P l (encs x) A fun e B => (e = .returned (.bool true) ∧ J (pre ++ [x]) B ∧ Kp A B) ∨ (e = .returned (.bool false) ∧ Jx (pre ++ [x]) B)) →
    J [] W →
    CallsIn Fence.wide 0 P g (#[.func (.yield l) #[] #[]] ++ lb) W fun e B => (∃ v, e = .returned v) ∧ ((∃ xs, S xs ∧ J xs B) ∨ (∃ pre, Sp pre ∧ Jx pre B))

/-- The two blocks that the loop lays for itself lie as they lay. -/
def Two (D : Nat) (A B : World) : Prop := ∀ k o, (k = D ∨ k = D + 1) → A.heap[k]? = some o → B.heap[k]? = some o

/-- How a round may be left. -/
def overPost {α : Type} (D : Nat) (Kp : World → World → Prop) (I : List α → World → Prop) (Ix : Code → List α → World → Prop) (xs : List α) (W : World) : Exit → Act → World → Prop
  | .normal, _, W' => Two D W W' ∧ Kp W W' ∧ I xs W'
  | .ret, _, W' => Two D W W' ∧ Ix .ret xs W'
  | .exit id, _, W' => Two D W W' ∧ Ix (.exit id) xs W'
  | _, _, _ => False

theorem wp_rangeOver {P : Program} {α : Type} {g : Operand} {ps : Array Tmp} {assign body : Code} {Q : Exit → Act → World → Prop} {a : Act} {w : World} {gf : Nat} {lb : Array Value}
    (hg : a.eval g = .func (.func gf) #[] lb) (eg : ∀ args w, (callFunc gf args).run P w = .ok (.enter gf args) w)
    {encs : α → Array Value} {Ab Kp : World → World → Prop} {Nx : List α → α → Prop} {S Sp : List α → Prop}
    (hseq : ∀ W, Below w.heap.size w W → SeqOver P gf lb encs Ab Kp Nx S Sp W)
    (hKt : ∀ A B C, Kp A B → Kp B C → Kp A C) (hKb : ∀ (A : World) k o, w.heap.size ≤ k → Kp A (A.putObj k o))
    (hAb : ∀ A B, Ab A B → Two w.heap.size A B) (hps : ∀ x, (encs x).size = ps.size)
    (I : List α → World → Prop) (Ix : Code → List α → World → Prop) (hI : ∀ s (A : World) k o, I s A → w.heap.size ≤ k → I s (A.putObj k o)) (hIx : ∀ c s (A : World) k o, Ix c s A → w.heap.size ≤ k → Ix c s (A.putObj k o))
    (hIA : ∀ s A B, I s A → Ab A B → I s B) (hIxA : ∀ c s A B, Ix c s A → Ab A B → Ix c s B) (h0 : ∀ W, Below w.heap.size w W → I [] W) (a₁ : α → Act)
    (hassign : ∀ (l : Nat) (x : α) (W : World) (K : Act → World → Prop), K (a₁ x) W →
      assign.wpIn (Fence.wide.inRound l) 0 P (Exit.then K (fun _ _ _ => False)) { tmps := (ps.zip (encs x)).foldl (fun t (p, v) => t.setIfInBounds p v) a.tmps, defers := [] } W)
    (hbody : ∀ (l : Nat) (pre : List α) (x : α) (W : World), I pre W → Nx pre x → w.heap.size + 1 < W.heap.size → body.wpIn (Fence.wide.inRound l) 0 P (overPost w.heap.size Kp I Ix (pre ++ [x]) W) (a₁ x) W)
    (hdone : ∀ (D : Nat) (xs : List α) (W : World), w.heap.size ≤ D → S xs → I xs W → W.heap[D]? = some (.deferred (some [])) → Q .normal { a with defers := { target := .collected D, args := #[] } :: a.defers } W)
    (hstop : ∀ (D : Nat) (c : Code) (pre : List α) (W : World), w.heap.size ≤ D → Sp pre → Ix c pre W → W.heap[D]? = some (.deferred (some [])) → c.wpIn Fence.wide 1 P Q { a with defers := { target := .collected D, args := #[] } :: a.defers } W) :
    (Code.rangeFunc g ps assign body).wpIn Fence.wide 1 P Q a w := by
  refine wpIn_rangeFunc ?_
  intro fn hfn
  obtain ⟨D, hD⟩ : ∃ D, D = w.heap.size := ⟨_, rfl⟩
  -- the record, by its state and its jump
  let rec_ : LoopState → Option Code → Obj := fun st pe => .loop { state := st, pending := pe, fn, tmps := a.tmps, params := ps, assign, body, defers := w.heap.size }
  obtain ⟨W1, hW1⟩ : ∃ W1, W1 = (w.alloc (.deferred (some []))).alloc (rec_ .ready none) := ⟨_, rfl⟩
  have hL1 : W1.heap[w.heap.size + 1]? = some (rec_ .ready none) := by
    have h := World.alloc_heap_new (w.alloc (.deferred (some []))) (rec_ .ready none)
    rw [World.size_alloc] at h; rw [hW1]; exact h
  have hK1 : W1.heap[w.heap.size]? = some (.deferred (some [])) := by
    rw [hW1]; exact (Below.heap_alloc _ _ _ (by simp)).trans (World.alloc_heap_new w _)
  have hB1 : Below w.heap.size w W1 := by
    rw [hW1]; exact ((Below.refl _ w).alloc (Nat.le_refl _) _).alloc (by simp) _
  refine ⟨w.heap.size + 1, [{ target := .collected w.heap.size, args := #[] }], W1, { target := .fn (.func gf) lb, args := #[.func (.yield (w.heap.size + 1)) #[] #[]] }, W1, gf,
    #[.func (.yield (w.heap.size + 1)) #[] #[]] ++ lb, W1, by rw [hW1]; exact run_enterLoop_outer _ _ _ _ _, by simp only [resolve, hg]; simp [go_sem], fun _ _ => trivial, by simp [invoke, go_sem, eg], fun _ => Nat.le_refl _, ?_⟩
  -- what a step leaves of the two blocks
  have two : ∀ {A B : World} {o : Obj}, Two w.heap.size A B → A.heap[w.heap.size + 1]? = some o → A.heap[w.heap.size]? = some (.deferred (some [])) → B.heap[w.heap.size + 1]? = some o ∧ B.heap[w.heap.size]? = some (.deferred (some [])) :=
    fun ht hl hk => ⟨ht _ _ (.inr rfl) hl, ht _ _ (.inl rfl) hk⟩
  have put : ∀ {A : World} {o : Obj} (o' : Obj), A.heap[w.heap.size + 1]? = some o → A.heap[w.heap.size]? = some (.deferred (some [])) →
      (A.putObj (w.heap.size + 1) o').heap[w.heap.size + 1]? = some o' ∧ (A.putObj (w.heap.size + 1) o').heap[w.heap.size]? = some (.deferred (some [])) :=
    fun o' hl hk => ⟨World.putObj_heap_same (Array.getElem?_eq_some_iff.1 hl).1, (World.putObj_heap_other (by omega)).trans hk⟩
  refine (hseq W1 hB1 (w.heap.size + 1)
    (fun pre W => I pre W ∧ W.heap[w.heap.size + 1]? = some (rec_ .ready none) ∧ W.heap[w.heap.size]? = some (.deferred (some [])))
    (fun pre W => ∃ c, Ix c pre W ∧ W.heap[w.heap.size + 1]? = some (rec_ .done (some c)) ∧ W.heap[w.heap.size]? = some (.deferred (some [])))
    (fun s A B h hab => ⟨hIA _ _ _ h.1 hab, two (hAb _ _ hab) h.2.1 h.2.2⟩)
    (fun s A B h hab => let ⟨c, h1, h2, h3⟩ := h; ⟨c, hIxA _ _ _ _ h1 hab, two (hAb _ _ hab) h2 h3⟩)
    ?round ⟨h0 W1 hB1, hL1, hK1⟩).mono ?behind
  case round =>
    rintro pre x W ⟨hi, hl, hk⟩ hnx
    refine ⟨fn, _, assign, body, run_yield (P := P) (args := encs x) hl (hps x), roundIn_of_wpIn hfn (hassign _ x W _ ⟨_, run_beginRound hl rfl, ?_⟩)⟩
    obtain ⟨hl2, hk2⟩ := put (rec_ .busy none) hl hk
    have hw2 : Kp W (W.putObj (w.heap.size + 1) (rec_ .busy none)) := hKb _ _ _ (by omega)
    refine wpIn_mono (hbody _ pre x _ (hI _ _ _ _ hi (by omega)) hnx (Array.getElem?_eq_some_iff.1 hl2).1) ?_
    intro e a3 W3 hp
    cases e with
    | normal =>
      obtain ⟨ht, hkp, hi3⟩ := hp
      obtain ⟨hl3, hk3⟩ := two ht hl2 hk2
      obtain ⟨hl4, hk4⟩ := put (rec_ .ready none) hl3 hk3
      exact ⟨_, _, run_endRound (P := P) none hl3, .inl ⟨rfl, ⟨hI _ _ _ _ hi3 (by omega), hl4, hk4⟩, hKt _ _ _ hw2 (hKt _ _ _ hkp (hKb _ _ _ (by omega)))⟩⟩
    | ret =>
      obtain ⟨ht, hi3⟩ := hp
      obtain ⟨hl3, hk3⟩ := two ht hl2 hk2
      obtain ⟨hl4, hk4⟩ := put (rec_ .done (some .ret)) hl3 hk3
      exact ⟨_, _, run_endRound (P := P) (some .ret) hl3, .inr ⟨rfl, .ret, hIx _ _ _ _ _ hi3 (by omega), hl4, hk4⟩⟩
    | exit id =>
      obtain ⟨ht, hi3⟩ := hp
      obtain ⟨hl3, hk3⟩ := two ht hl2 hk2
      obtain ⟨hl4, hk4⟩ := put (rec_ .done (some (.exit id))) hl3 hk3
      exact ⟨_, _, run_endRound (P := P) (some (.exit id)) hl3, .inr ⟨rfl, .exit id, hIx _ _ _ _ _ hi3 (by omega), hl4, hk4⟩⟩
    | goto t => exact hp.elim
    | panic ch => exact hp.elim
    | outgrown => exact hp.elim
  case behind =>
    rintro e W2 ⟨⟨v, rfl⟩, (⟨xs, hS, hi, hl, hk⟩ | ⟨pre, hSp, c, hi, hl, hk⟩)⟩
    · exact ⟨none, _, run_endLoop (P := P) hl (by simp), hdone _ xs _ (Nat.le_refl _) hS (hI _ _ _ _ hi (by omega)) (put _ hl hk).2⟩
    · exact ⟨some c, _, run_endLoop (P := P) hl (by simp), hstop _ c pre _ (Nat.le_refl _) hSp (hIx _ _ _ _ _ hi (by omega)) (put _ hl hk).2⟩

end Go.Proofs.YthknljeffpbbmaaGreatDoor
