/-
  The walk of rules.copied: a value that shares nothing is the same value.
  The walk of rules.copied: a value that shares nothing is the same value.
  The chapter's example: the walks of rules.typeOf, own, Find (over no rules) and tree.Get (of one file).
  The chapter's example: the walk of rules.attr at its parameter.
  The chapter's example: the walk of tree.Get at one file, that of the rules.
-/
import Derived.Lib.SliceRun
import Derived.Deep.DeepCutAuto
import Derived.Test.YthknljeffpbbmaaGreatDoorMCloneD
import Derived.Test.YthknljeffpbbmaaGreatDoorLeans
import Derived.Test.YthknljeffpbbmaaGreatDoorMBindFits
import Derived.Test.YthknljeffpbbmaaGreatDoorMTaken
namespace Go.Proofs.YthknljeffpbbmaaGreatDoor
open Go Go.RowKit

theorem row_of_own_strs {w : World} {base : Nat} {v : Value} {l : List ByteArray} (h : w.ownsRow base 9 1 v l.length (l.map Value.string)) : ∃ a cap, v = .slice a l.length cap ∧ RowAt (fun b => base ≤ b) w a (strsD l) := by
  have hd : OwnD (fun _ => True) w base 9 1 v (strsD l) := by
    refine ⟨l.map fun s => [.string s], by simp [strsD], fun cs hcs => ?_, ?_, fun j ds cs h1 h2 => ?_⟩
    · obtain ⟨s, -, rfl⟩ := List.mem_map.1 hcs
      rfl
    · have : (l.map fun s => [Value.string s]).flatten = l.map Value.string := by
        clear h
        induction l with
        | nil => rfl
        | cons x t ih => simp only [List.map_cons, List.flatten_cons, ih]; rfl
      rw [this, strsD_len]
      exact h
    · unfold strsD at h1
      rw [List.getElem?_map] at h1 h2
      cases hl : l[j]? with
      | none => rw [hl] at h1; cases h1
      | some s =>
        rw [hl] at h1 h2
        cases h1
        cases h2
        exact .cons (.one _) .nil
  obtain ⟨a, cap, hv, hr⟩ := hd.rowAt (fun _ _ => trivial)
  rw [strsD_len] at hv
  refine ⟨a, cap, hv, fun j ds hj => ?_⟩
  obtain ⟨b, off, cs, ha, -, hb, hag, hc⟩ := hr j ds hj
  subst hv
  subst ha
  obtain ⟨-, ⟨h1, -⟩ | ⟨g, cap', cur, h1, h2, -⟩⟩ := h
  · cases h1
  · cases h1
    refine ⟨b, 0, cs, rfl, h2, hb, ⟨hag.1, fun i u d h3 h4 => ?_⟩, hc⟩
    unfold strsD at hj
    rw [List.getElem?_map] at hj
    cases hl : l[j]? with
    | none => rw [hl] at hj; cases hj
    | some s =>
      rw [hl] at hj
      cases hj
      cases i with
      | zero =>
        have := hag.2 0 u d h3 h4
        simp at h4
        subst h4
        obtain rfl := this.one_inv
        exact .one _
      | succ i => simp at h4

theorem OwnD.shape {F : Nat → Prop} {w : World} {base : Nat} {e : TypeId} {size : Nat} {v : Value} {l : List (List Dat)} (h : OwnD F w base e size v l) : ∃ a cap, v = .slice a l.length cap ∧ l.length ≤ cap := by
  obtain ⟨css, -, -, ⟨-, ⟨rfl, h⟩ | ⟨g, cap, cur, rfl, -, -, h, -⟩⟩, -⟩ := h
  · exact ⟨none, 0, by rw [h], by omega⟩
  · exact ⟨_, cap, rfl, h⟩
def PStrs (l : List ByteArray) (w : World) (e : Ending) (w' : World) : Prop := ∃ a c, e = .returned (.slice a l.length c) ∧ RowAt (fun b => w.heap.size ≤ b) w' a (strsD l) ∧ Below w.heap.size w w'
theorem cloneStr_any (a : Option Addr) (c : Nat) (l : List ByteArray) (F : Nat → Prop) (w : World) (hl : l.length ≤ 1000) (hr : RowAt F w a (strsD l)) :
    Calls Tryz.prog 48 #[.slice a l.length c] w (PStrs l w) := by
  cases l with
  | nil =>
    cases a with
    | none =>
      refine (Tryz.slices_Clone_string_nil 0 c w).mono ?_
      rintro e w' ⟨rfl, rfl⟩
      exact ⟨none, 0, rfl, RowAt.nil _, Below.refl _ _⟩
    | some ad =>
      refine (Tryz.slices_Clone_string_zero ad c w).mono ?_
      rintro e w' ⟨v', rfl, hown, -, hb⟩
      obtain ⟨a', cap, rfl, hrow⟩ := row_of_own_strs (l := []) hown
      exact ⟨a', cap, rfl, hrow, hb⟩
  | cons x t =>
    have hst := hr.strs
    obtain ⟨b, off, rfl, -⟩ := hst 0 x rfl
    refine (Tryz.slices_Clone_string b off (x :: t).length c (x :: t) w (Nat.le_refl _) (by omega) (fun j hj => ?_)).mono ?_
    · obtain ⟨b', off', hbe, hc⟩ := hst j _ (List.getElem?_eq_getElem hj)
      cases hbe
      rw [hc, List.getD_eq_getElem?_getD, List.getElem?_eq_getElem hj]
      rfl
    · rintro e w' ⟨v', rfl, hown, -, hb⟩
      rw [List.take_length] at hown
      obtain ⟨a', cap, rfl, hrow⟩ := row_of_own_strs hown
      exact ⟨a', cap, rfl, hrow, hb⟩

def PVals (F : Nat → Prop) (l : List Vl) (w : World) (e : Ending) (w' : World) : Prop := ∃ a c, e = .returned (.slice a l.length c) ∧ OwnD F w' w.heap.size 37 5 (.slice a l.length c) (valsD l) ∧ Below w.heap.size w w' ∧ l.length ≤ c
theorem own_made {w : World} (F : Nat → Prop) (e : TypeId) (size : Nat) : OwnD F (w.alloc (.cells #[] e)) w.heap.size e size (.slice (some ⟨w.heap.size, 0, none⟩) 0 0) [] := by
  refine ⟨[], rfl, by simp, ⟨by simp, .inr ⟨w.heap.size, 0, #[], rfl, Nat.le_refl _, heap_alloc_new w _, Nat.le_refl _, by simp, by simp, by simp⟩⟩, by simp⟩
set_option maxRecDepth 100000 in
set_option maxHeartbeats 2000000 in
theorem cloneVal_any (a : Option Addr) (c : Nat) (l : List Vl) (F : Nat → Prop) (w : World) (hl : l.length ≤ 1000) (hF : ∀ b, F b → b < w.heap.size) (hr : RowAt F w a (valsD l)) :
    Calls Tryz.prog 49 #[.slice a l.length c] w (PVals F l w) := by
  have hq : ∀ n w, (binOp .eql 34 (.slice a n c) (.slice none 0 0)).run Tryz.prog w = .ok (.bool a.isNone) w := fun n w => Lib.run_eql_slice_nil w 34 37 a n c 0 0 Tryz.underlying34
  cases l with
  | nil =>
    have hq0 := hq 0
    cases a with
    | none =>
      go_enter Tryz.func49, Tryz.ntmps49
      go_wp2_with fail
      refine bodyPost_ret (v := .slice none 0 0) (by simp [results, Tryz.results49, go_sem]) rfl ?_
      exact ⟨_, _, rfl, OwnD.nil _ _ _ _ _, Below.refl _ _, Nat.le_refl _⟩
    | some ad =>
      go_enter Tryz.func49, Tryz.ntmps49
      go_wp2_with fail
      refine bodyPost_ret (v := .slice (some ⟨w.heap.size, 0, none⟩) 0 0) (by simp [results, Tryz.results49, go_sem]) rfl ?_
      exact ⟨_, _, rfl, own_made F _ 5, (Below.refl _ w).alloc (Nat.le_refl _) _, Nat.le_refl _⟩
  | cons x t =>
    obtain ⟨b, off, cs, rfl, -⟩ := hr 0 (valD x) (by rw [valsD_map]; rfl)
    obtain ⟨i0, hi, hz0, hz1, hz2⟩ := info_parts infoVal
    have hq1 := hq (x :: t).length
    generalize hxt : x :: t = l at hl hr hq1 ⊢
    clear hxt hq
    have hba : Below w.heap.size w (w.alloc (.cells #[] 37)) := (Below.refl _ w).alloc (Nat.le_refl _) _
    have Hown := Lib.hid (own_made (w := w) F 37 5)
    have Hrow : Hid (RowAt (fun b' => F b' ∧ (Value.slice (some ⟨w.heap.size, 0, none⟩) 0 0).ownBlock ≠ some b') (w.alloc (.cells #[] 37)) (some ⟨b, off, none⟩) (valsD l)) := Lib.hid ((hr.below hba).wider (fun b' h _ => ⟨h, fun e => by
      have h1 := hF b' h
      have h2 : w.heap.size = b' := by simpa [Value.ownBlock] using e
      omega⟩))
    have Hba := Lib.hid hba
    clear hr hba hF
    go_enter Tryz.func49, Tryz.ntmps49
    go_wp2_with (at_builtin; refine wpList_append_row rfl _ _ 34 rfl w.heap.size 37 i0 _ 5 80 Tryz.underlying34 hi hz0 hz1 hz2 rfl (by decide) (.slice (some ⟨w.heap.size, 0, none⟩) 0 0) F [] rfl Hown.out b off c (valsD l) ?_ Hrow.out (valsD_all valD_len l) (valsD_all valD_plain l) ?_ ?_ ?_ ?_)
    · rw [valsD_len]; rfl
    · rw [valsD_len, List.length_nil]; unfold maxLen; omega
    · rw [valsD_len, List.length_nil]; omega
    · simp
    intro v2 w2 hown2 hgrow2 _
    have hobl : ∀ g, (Value.slice (some ⟨w.heap.size, 0, none⟩) 0 0).ownBlock = some g → w.heap.size ≤ g := fun g hg => by
      have h2 : w.heap.size = g := by simpa [Value.ownBlock] using hg
      omega
    have Hb2 := Lib.hid (Hba.out.trans (grown_below hgrow2 hobl (by simp)))
    obtain ⟨aO, cO, hv, hc⟩ := hown2.shape
    rw [valsD_len] at hv hc
    subst hv
    have Hown2 := Lib.hid hown2
    clear hown2 hgrow2 hobl Hown Hrow Hba
    go_wp2_with fail
    refine bodyPost_ret (v := .slice aO l.length cO) (by simp [results, Tryz.results49, go_sem]) rfl ?_
    exact ⟨_, _, rfl, Hown2.out, Hb2.out, hc⟩
end Go.Proofs.YthknljeffpbbmaaGreatDoor
namespace Go.Proofs.YthknljeffpbbmaaGreatDoor
open Go Go.RowKit

def PCopy (F : Nat → Prop) (v : Vl) (w : World) (e : Ending) (w' : World) : Prop := Below w.heap.size w w' ∧ ∃ cs : List Value, e = .returned (.agg cs.toArray) ∧ AggAt (fun b => F b ∨ w.heap.size ≤ b) w' (valD v) cs
def CopyC (v : Vl) : Prop := ∀ (F : Nat → Prop) (a1 : Option Addr) (c1 : Nat) (a2 : Option Addr) (c2 : Nat) (w : World), (∀ b, F b → b < w.heap.size) → RowAt F w a1 (valsD v.items) → RowAt F w a2 (strsD v.keys) →
  Calls Tryz.prog 21 #[.agg #[.int .i64 v.kind, .int .i64 v.num, .string v.str, .slice a1 v.items.length c1, .slice a2 v.keys.length c2]] w (PCopy F v w)
/-- The block of an own row that is not empty. -/
theorem OwnD.blk {F : Nat → Prop} {w : World} {base : Nat} {e : TypeId} {size : Nat} {a : Option Addr} {n c : Nat} {l : List (List Dat)} (h : OwnD F w base e size (.slice a n c) l) (hl : l ≠ []) (hn : n = l.length) (_hsz : ∀ ds ∈ l, ds.length = size) :
    ∃ g, a = some ⟨g, 0, none⟩ ∧ base ≤ g ∧ g < w.heap.size ∧ ∀ j, j < l.length → ∀ i, i < size → (∃ u, w.cell? ⟨g, j * size + i, none⟩ = some u) ∧ w.frozen? ⟨g, j * size + i, none⟩ = false := by
  obtain ⟨css, h1, h2, ⟨h3, ⟨h4, h5⟩ | ⟨g, cap, cur, hv, hg, hb, hc, -, hs, -⟩⟩, -⟩ := h
  · cases h4
    exact absurd (List.length_eq_zero_iff.1 h5) hl
  · cases hv
    obtain ⟨hlt, hcell, hfz⟩ := block_facts hb
    refine ⟨g, rfl, hg, hlt, fun j hj i hi => ⟨?_, hfz _⟩⟩
    rw [hcell]
    have : j * size + i < cur.size := by
      rw [hs]
      have h1 : (j + 1) * size ≤ c * size := Nat.mul_le_mul_right _ (by omega)
      rw [Nat.add_mul] at h1
      omega
    exact ⟨cur[j * size + i], Array.getElem?_eq_getElem this⟩

theorem OwnD.wider {F G : Nat → Prop} {w : World} {base : Nat} {e : TypeId} {size : Nat} {v : Value} {l : List (List Dat)} (h : OwnD F w base e size v l) (hg : ∀ b, F b → G b) : OwnD G w base e size v l := by
  obtain ⟨css, h1, h2, h3, h4⟩ := h
  exact ⟨css, h1, h2, h3, fun j ds cs h5 h6 => (h4 j ds cs h5 h6).wider fun b hb _ => ⟨hg b hb.1, hb.2⟩⟩
/-- A struct of an own row, and where its parts lie. -/
theorem OwnD.elt {F : Nat → Prop} {w : World} {base : Nat} {e : TypeId} {size g n c : Nat} {l : List (List Dat)} (h : OwnD F w base e size (.slice (some ⟨g, 0, none⟩) n c) l) {j : Nat} {ds : List Dat} (hj : l[j]? = some ds) {s : Option Addr} (_hs : s = some ⟨g, 0, none⟩) :
    ∃ cs, AggAt (fun b => F b ∧ (Value.slice (some ⟨g, 0, none⟩) n c).ownBlock ≠ some b) w ds cs ∧ ∀ (i : Nat) u, cs[i]? = some u → w.cell? ⟨g, j * ds.length + i, none⟩ = some u := by
  have h0 := h
  obtain ⟨css, h1, h2, h3, h4⟩ := h
  have hjl := (List.getElem?_eq_some_iff.1 hj).1
  have hjc : css[j]? = some (css[j]'(by omega)) := List.getElem?_eq_getElem (by omega)
  have hag := h4 j _ _ hj hjc
  refine ⟨_, hag, fun i u hu => ?_⟩
  have hrow : OwnD (fun _ => True) w base e size (.slice (some ⟨g, 0, none⟩) n c) l := h0.wider fun _ _ => trivial
  obtain ⟨h5, ⟨h6, -⟩ | ⟨g', cap, cur, h6, -, hb, hc, -, hs', ht⟩⟩ := h3
  · cases h6
  · cases h6
    obtain ⟨-, hcell, -⟩ := block_facts hb
    rw [hcell]
    have hds : ds.length = size := by rw [← hag.1]; exact h2 _ (List.mem_of_getElem? hjc)
    have hi := (List.getElem?_eq_some_iff.1 hu).1
    have h9 := flatten_get h2 hjc hu
    rw [← ht, List.getElem?_take_of_lt (by
      have : (j + 1) * size ≤ l.length * size := Nat.mul_le_mul_right _ (by omega)
      rw [Nat.add_mul] at this
      have := h2 _ (List.mem_of_getElem? hjc)
      omega), Array.getElem?_toList] at h9
    rw [hds]
    exact h9
theorem val_set {n b : Nat} {w W : World} {c0 c1 c2 c3 c4 : Value} {t : TypeId} (hn : n ≤ b) (hb : Below n w W) (hr : W.heap[b]? = some (.cells #[c0, c1, c2, c3, c4] t (0, 0))) (v0 v1 v2 v3 v4 : Value) :
    (W.setCells b 0 [v0, v1, v2, v3, v4]).heap[b]? = some (.cells #[v0, v1, v2, v3, v4] t (0, 0)) ∧ Below n w (W.setCells b 0 [v0, v1, v2, v3, v4]) :=
  ⟨by
    show (((((W.setCell ⟨b, 0, none⟩ v0).setCell ⟨b, 1, none⟩ v1).setCell ⟨b, 2, none⟩ v2).setCell ⟨b, 3, none⟩ v3).setCell ⟨b, 4, none⟩ v4).heap[b]? = _
    rw [set_same (set_same (set_same (set_same (set_same hr 0 _) 1 _) 2 _) 3 _) 4]; rfl,
  by
    show Below n w (((((W.setCell ⟨b, 0, none⟩ v0).setCell ⟨b, 1, none⟩ v1).setCell ⟨b, 2, none⟩ v2).setCell ⟨b, 3, none⟩ v3).setCell ⟨b, 4, none⟩ v4)
    exact ((((hb.setCell (p := ⟨b, 0, none⟩) hn _).setCell (p := ⟨b, 1, none⟩) hn _).setCell (p := ⟨b, 2, none⟩) hn _).setCell (p := ⟨b, 3, none⟩) hn _).setCell (p := ⟨b, 4, none⟩) hn _⟩
theorem set_self {α : Type} {l : List α} {j : Nat} {x : α} (h : l[j]? = some x) : l.set j x = l := by
  apply List.ext_getElem?
  intro i
  by_cases hij : j = i
  · subst hij
    rw [List.getElem?_set_self (List.getElem?_eq_some_iff.1 h).1, h]
  · rw [List.getElem?_set_ne hij]

theorem below_setCells {n g : Nat} {w : World} (hn : n ≤ g) : ∀ (vs : List Value) (o : Nat) (W : World), Below n w W → Below n w (W.setCells g o vs)
  | [], _, _, h => h
  | v :: r, o, W, h => by rw [World.setCells]; exact below_setCells hn r (o + 1) _ (h.setCell (p := ⟨g, o, none⟩) hn v)
set_option maxRecDepth 100000 in
set_option maxHeartbeats 8000000 in
theorem copied_node (k n : Int) (s : ByteArray) (l : List Vl) (ks : List ByteArray) (hck : checkV (.mk k n s l ks) = true) (hit : ∀ x ∈ l, CopyC x) (F : Nat → Prop) (a1 : Option Addr) (c1 : Nat) (a2 : Option Addr) (c2 : Nat) (w : World) (hF : ∀ b, F b → b < w.heap.size) (hr1 : RowAt F w a1 (valsD l)) (hr2 : RowAt F w a2 (strsD ks)) :
    Calls Tryz.prog 21 #[.agg #[.int .i64 k, .int .i64 n, .string s, .slice a1 l.length c1, .slice a2 ks.length c2]] w (PCopy F (.mk k n s l ks) w) := by
  obtain ⟨-, hll, hkl⟩ := check_len hck
  obtain ⟨h1, h2, h3, h4⟩ := alloc2 w (.cells #[.int .i64 k, .int .i64 n, .string s, .slice a1 l.length c1, .slice a2 ks.length c2] 37) (.cells #[.int .i64 0, .int .i64 0, .string ⟨#[]⟩, .slice none 0 0, .slice none 0 0] 37)
  have H0 := Lib.hid (And.intro h1 (And.intro h2 (And.intro h3 (And.intro (hr1.below h3) (hr2.below h3)))))
  have h4' := h4
  have HF := Lib.hid hF
  have Hit := Lib.hid hit
  have HK := Lib.hid (fun W (h : RowAt F W a2 (strsD ks)) => cloneStr_any a2 c2 ks F W hkl h)
  have HV := Lib.hid (fun W (h0 : ∀ b, F b → b < W.heap.size) (h : RowAt F W a1 (valsD l)) => cloneVal_any a1 c1 l F W hll h0 h)
  have hb2 : w.heap.size + 2 ≤ ((w.alloc (.cells #[.int .i64 k, .int .i64 n, .string s, .slice a1 l.length c1, .slice a2 ks.length c2] 37)).alloc (.cells #[.int .i64 0, .int .i64 0, .string ⟨#[]⟩, .slice none 0 0, .slice none 0 0] 37)).heap.size := by rw [h4]; exact Nat.le_refl _
  have Hb2 := Lib.hid hb2
  clear h1 h2 h3 h4 h4' hr1 hr2 hF hit hck hb2
  go_enter Tryz.func21, Tryz.ntmps21
  go_wp2_with fail
  refine (HK.out _ H0.out.2.2.2.2).mono ?_
  rintro e w1 ⟨aK, cK, rfl, hrK, hb1⟩
  have hz1 : w.heap.size + 2 ≤ w1.heap.size := Nat.le_trans Hb2.out hb1.size
  have H1 := Lib.hid (And.intro (stays H0.out.1 hb1) (And.intro (stays H0.out.2.1 hb1) (And.intro (H0.out.2.2.1.trans (hb1.mono H0.out.2.2.1.size)) (And.intro (H0.out.2.2.2.1.below hb1) (hrK.wider (G := fun b => w.heap.size + 2 ≤ b) fun b hb _ => Nat.le_trans Hb2.out hb)))))
  clear hb1 hrK H0 HK Hb2
  obtain ⟨q0, q1, q2, q3, q4, q5, q6, q7, q8, q9, q10⟩ := five_facts H1.out.1
  go_wp2_with fail
  have H2 : Hid ((w1.setCell ⟨w.heap.size, 4, none⟩ (.slice aK ks.length cK)).heap[w.heap.size]? = some (.cells #[.int .i64 k, .int .i64 n, .string s, .slice a1 l.length c1, .slice aK ks.length cK] 37 (0, 0)) ∧ (w1.setCell ⟨w.heap.size, 4, none⟩ (.slice aK ks.length cK)).heap[w.heap.size + 1]? = some (.cells #[.int .i64 0, .int .i64 0, .string ⟨#[]⟩, .slice none 0 0, .slice none 0 0] 37 (0, 0)) ∧ Below w.heap.size w (w1.setCell ⟨w.heap.size, 4, none⟩ (.slice aK ks.length cK)) ∧ RowAt F (w1.setCell ⟨w.heap.size, 4, none⟩ (.slice aK ks.length cK)) a1 (valsD l) ∧ RowAt (fun b => w.heap.size + 2 ≤ b) (w1.setCell ⟨w.heap.size, 4, none⟩ (.slice aK ks.length cK)) aK (strsD ks) ∧ w.heap.size + 2 ≤ (w1.setCell ⟨w.heap.size, 4, none⟩ (.slice aK ks.length cK)).heap.size) := Lib.hid
    ⟨by rw [set_same H1.out.1 4]; rfl, (set_other (by omega) 4 _).trans H1.out.2.1, H1.out.2.2.1.setCell (p := ⟨w.heap.size, 4, none⟩) (Nat.le_refl _) _, H1.out.2.2.2.1.mono (fun b hb hl => ⟨hb, by simpa using hl, set_other (by have := HF.out b hb; omega) 4 _⟩), H1.out.2.2.2.2.mono (fun b hb hl => ⟨hb, by simpa using hl, set_other (by have : w.heap.size + 2 ≤ b := hb; omega) 4 _⟩), by simpa using hz1⟩
  generalize World.setCell _ _ _ = W2 at H2 ⊢
  clear q0 q1 q2 q3 q4 q5 q6 q7 q8 q9 q10 H1 hz1
  obtain ⟨m, hm⟩ : ∃ m, m = W2.heap.size := ⟨_, rfl⟩
  have hm2 : w.heap.size + 2 ≤ m := by rw [hm]; exact H2.out.2.2.2.2.2
  refine (HV.out _ (fun b hb => by have := HF.out b hb; have := H2.out.2.2.2.2.2; omega) H2.out.2.2.2.1).mono ?_
  rintro e w3 ⟨aO, cO, rfl, hownO, hb3, hcO⟩
  have hz3 : w.heap.size + 2 ≤ w3.heap.size := Nat.le_trans H2.out.2.2.2.2.2 hb3.size
  have hownO2 : OwnD (fun b => F b ∨ m ≤ b) w3 m 37 5 (.slice aO l.length cO) (valsD l) := (hownO.wider (fun b hb => .inl hb)).lower (Nat.le_of_eq hm)
  have H3 := Lib.hid (And.intro (stays H2.out.1 hb3) (And.intro (stays H2.out.2.1 hb3) (And.intro (H2.out.2.2.1.trans (hb3.mono H2.out.2.2.1.size)) (And.intro hownO2 ((H2.out.2.2.2.2.1.here.wider (G := fun b => w.heap.size + 2 ≤ b ∧ b < m) fun b hb _ => ⟨hb.1, by rw [hm]; exact hb.2⟩).below hb3)))))
  clear hb3 H2 HV hownO hownO2 hm
  obtain ⟨q0, q1, q2, q3, q4, q5, q6, q7, q8, q9, q10⟩ := five_facts H3.out.1
  go_wp2_with fail
  have H4 : Hid ((w3.setCell ⟨w.heap.size, 3, none⟩ (.slice aO l.length cO)).heap[w.heap.size]? = some (.cells #[.int .i64 k, .int .i64 n, .string s, .slice aO l.length cO, .slice aK ks.length cK] 37 (0, 0)) ∧ (w3.setCell ⟨w.heap.size, 3, none⟩ (.slice aO l.length cO)).heap[w.heap.size + 1]? = some (.cells #[.int .i64 0, .int .i64 0, .string ⟨#[]⟩, .slice none 0 0, .slice none 0 0] 37 (0, 0)) ∧ Below w.heap.size w (w3.setCell ⟨w.heap.size, 3, none⟩ (.slice aO l.length cO)) ∧ OwnD (fun b => F b ∨ m ≤ b) (w3.setCell ⟨w.heap.size, 3, none⟩ (.slice aO l.length cO)) m 37 5 (.slice aO l.length cO) (valsD l) ∧ RowAt (fun b => w.heap.size + 2 ≤ b ∧ b < m) (w3.setCell ⟨w.heap.size, 3, none⟩ (.slice aO l.length cO)) aK (strsD ks) ∧ w.heap.size + 2 ≤ (w3.setCell ⟨w.heap.size, 3, none⟩ (.slice aO l.length cO)).heap.size) := Lib.hid
    ⟨by rw [set_same H3.out.1 3]; rfl, (set_other (by omega) 3 _).trans H3.out.2.1, H3.out.2.2.1.setCell (p := ⟨w.heap.size, 3, none⟩) (Nat.le_refl _) _, H3.out.2.2.2.1.keep (fun b hb hx => set_other (by
      rcases hx with (hx | hx) | hx
      · have := HF.out b hx; omega
      · omega
      · have := (H3.out.2.2.2.1.block_lt hx).1; omega) 3 _) (by simp), H3.out.2.2.2.2.mono (fun b hb hl => ⟨hb, by simpa using hl, set_other (by have : w.heap.size + 2 ≤ b := hb.1; omega) 3 _⟩), by simpa using hz3⟩
  generalize World.setCell _ _ _ = W4 at H4 ⊢
  clear q0 q1 q2 q3 q4 q5 q6 q7 q8 q9 q10 H3 hz3
  have hlc := hcO
  obtain ⟨q0, q1, q2, q3, q4, q5, q6, q7, q8, q9, q10⟩ := five_facts H4.out.1
  go_wp2_with fail
  clear q0 q1 q2 q3 q4 q5 q6 q7 q8 q9 q10
  go_loopw [16] (fun i wr => ∃ j : Nat, i = .int .i64 j ∧ j ≤ l.length ∧ Hid (wr.heap[w.heap.size]? = some (.cells #[.int .i64 k, .int .i64 n, .string s, .slice aO l.length cO, .slice aK ks.length cK] 37 (0, 0)) ∧ wr.heap[w.heap.size + 1]? = some (.cells #[.int .i64 0, .int .i64 0, .string ⟨#[]⟩, .slice none 0 0, .slice none 0 0] 37 (0, 0)) ∧ Below w.heap.size w wr ∧ OwnD (fun b => F b ∨ m ≤ b) wr m 37 5 (.slice aO l.length cO) (valsD l) ∧ RowAt (fun b => w.heap.size + 2 ≤ b ∧ b < m) wr aK (strsD ks) ∧ w.heap.size + 2 ≤ wr.heap.size)) (fun i _ => l.length - (intOf i).toNat)
  case atStart => exact ⟨0, rfl, Nat.zero_le _, H4⟩
  case round =>
    obtain ⟨j, rfl, hj, hst⟩ := hrel
    by_cases hlt : j < l.length
    · have hx0 : l[j]? = some l[j] := List.getElem?_eq_getElem hlt
      generalize l[j] = x at hx0
      have HC := Hit.out x (List.mem_of_getElem? hx0)
      obtain ⟨xk, xn, xs, xl, xks⟩ := x
      have hvl : (valsD l).length = l.length := valsD_len l
      obtain ⟨g, rfl, hg1, hg2, hgc⟩ := hst.out.2.2.2.1.blk (by intro e; rw [← hvl, e] at hlt; simp at hlt) hvl.symm (valsD_all valD_len l)
      obtain ⟨u0, v0⟩ := hgc j (by omega) 0 (by omega)
      obtain ⟨u1, v1⟩ := hgc j (by omega) 1 (by omega)
      obtain ⟨u2, v2⟩ := hgc j (by omega) 2 (by omega)
      obtain ⟨u3, v3⟩ := hgc j (by omega) 3 (by omega)
      obtain ⟨u4, v4⟩ := hgc j (by omega) 4 (by omega)
      rw [Nat.add_zero] at u0 v0
      have helt := hst.out.2.2.2.1.elt (j := j) (by rw [valsD_map, List.getElem?_map, hx0]; rfl) rfl
      obtain ⟨cs0, hag0, hcl0⟩ := helt
      obtain ⟨b1, e1, b2, e2, rfl, hs1, hs2⟩ := hag0.val
      rw [valD_len] at hcl0
      have r0 := hcl0 0 _ rfl
      have r1 := hcl0 1 _ rfl
      have r2 := hcl0 2 _ rfl
      have r3 := hcl0 3 _ rfl
      have r4 := hcl0 4 _ rfl
      rw [Nat.add_zero] at r0
      have hba : Below wr.heap.size wr (wr.alloc (.cells #[.int .i64 xk, .int .i64 xn, .string xs, .slice b1 xl.length e1, .slice b2 xks.length e2] 37)).drew := ((Below.refl _ wr).alloc (Nat.le_refl _) _).drew
      have hxb : (wr.alloc (.cells #[.int .i64 xk, .int .i64 xn, .string xs, .slice b1 xl.length e1, .slice b2 xks.length e2] 37)).drew.heap[wr.heap.size]? = some (.cells #[.int .i64 xk, .int .i64 xn, .string xs, .slice b1 xl.length e1, .slice b2 xks.length e2] 37 (0, 0)) := heap_alloc_new wr _
      have H5 := Lib.hid (And.intro hxb (And.intro (stays hst.out.1 hba) (And.intro (stays hst.out.2.1 hba) (And.intro (hst.out.2.2.1.trans (hba.mono hst.out.2.2.1.size)) (And.intro (hst.out.2.2.2.1.below hba) (And.intro (hst.out.2.2.2.2.1.below hba) (And.intro (hs1.below hba) (hs2.below hba))))))))
      have hz5 : w.heap.size + 2 ≤ (wr.alloc (.cells #[.int .i64 xk, .int .i64 xn, .string xs, .slice b1 xl.length e1, .slice b2 xks.length e2] 37)).drew.heap.size := Nat.le_trans hst.out.2.2.2.2.2 hba.size
      have hg5 : g < (wr.alloc (.cells #[.int .i64 xk, .int .i64 xn, .string xs, .slice b1 xl.length e1, .slice b2 xks.length e2] 37)).drew.heap.size := Nat.lt_of_lt_of_le hg2 hba.size
      have hx0' := Lib.hid hx0
      have hzr := hst.out.2.2.2.2.2
      clear hst hba hxb hs1 hs2 hag0 hcl0 hgc hvl u0 u1 u2 u3 u4 v0 v1 v2 v3 v4 hx0
      have HC' := Lib.hid HC
      clear HC
      go_wp2_with fail
      clear r0 r1 r2 r3 r4
      refine wp_region_turns (.s 0 (.s 1 (.s 2 (.s 3 (.h 4 (.s 5 (.h 6 .nil))))))) 6 (fun W' => W'.heap[w.heap.size]? = some (.cells #[.int .i64 k, .int .i64 n, .string s, .slice (some ⟨g, 0, none⟩) l.length cO, .slice aK ks.length cK] 37 (0, 0)) ∧ W'.heap[wr.heap.size]? = some (.cells #[.int .i64 xk, .int .i64 xn, .string xs, .slice b1 xl.length e1, .slice b2 xks.length e2] 37 (0, 0))) (by kernel_rfl) (by kernel_rfl) (fun c a d v w h => by cases d <;> exact h) ⟨H5.out.2.1, H5.out.1⟩ ?_
      generalize World.drew _ = W5 at H5 hz5 hg5 ⊢
      refine turn_steady (.pointer (some ⟨w.heap.size, 3, none⟩)) rfl rfl (fun W' hS => ?_) ?_
      · go_simp
      try simp only [List.getElem_toArray, List.getElem_cons_zero, Act.put, List.setIfInBounds_toArray, List.set_cons_zero, List.set_cons_succ]
      refine turn_steady (.slice (some ⟨g, 0, none⟩) l.length cO) rfl rfl (fun W' hS => ?_) ?_
      · obtain ⟨z0, z1, z2, z3, z4, z5, z6, z7, z8, z9, z10⟩ := five_facts hS.1
        clear hS
        go_simp
      try simp only [List.getElem_toArray, List.getElem_cons_succ, List.getElem_cons_zero, Act.put, List.setIfInBounds_toArray, List.set_cons_zero, List.set_cons_succ]
      refine turn_steady (.int .i64 j) rfl rfl (fun W' hS => ?_) ?_
      · go_simp
      try simp only [List.getElem_toArray, List.getElem_cons_succ, List.getElem_cons_zero, Act.put, List.setIfInBounds_toArray, List.set_cons_zero, List.set_cons_succ]
      refine turn_steady (.agg #[.int .i64 xk, .int .i64 xn, .string xs, .slice b1 xl.length e1, .slice b2 xks.length e2]) rfl rfl (fun W' hS => ?_) ?_
      · obtain ⟨z0, z1, z2, z3, z4, z5, z6, z7, z8, z9, z10⟩ := five_facts hS.2
        clear hS
        go_simp
      try simp only [List.getElem_toArray, List.getElem_cons_succ, List.getElem_cons_zero, Act.put, List.setIfInBounds_toArray, List.set_cons_zero, List.set_cons_succ]
      refine turn_heavy rfl (fun K4 hK4 => ?_)
      go_wp2_with fail
      refine (HC'.out (fun b => ((F b ∨ m ≤ b) ∧ (Value.slice (some ⟨g, 0, none⟩) l.length cO).ownBlock ≠ some b) ∧ b < W5.heap.size) b1 e1 b2 e2 W5 (fun b hb => hb.2) H5.out.2.2.2.2.2.2.1.here H5.out.2.2.2.2.2.2.2.here).mono ?_
      rintro e w6 ⟨hb6, cs, rfl, hag⟩
      have hgo : ∀ b, (Value.slice (some ⟨g, 0, none⟩) l.length cO).ownBlock ≠ some b → b ≠ g := fun b h e => h (by rw [e]; rfl)
      have hag2 : AggAt (fun b => (F b ∨ m ≤ b) ∧ b ≠ g) w6 (valD (.mk xk xn xs xl xks)) cs := hag.wider (fun b hb _ => by
        rcases hb with hb | hb
        · exact ⟨hb.1.1, hgo b hb.1.2⟩
        · exact ⟨.inr (by have := hg5; omega), by omega⟩)
      obtain ⟨b3, e3, b4, e4, rfl, -, -⟩ := hag.val
      have Hag := Lib.hid hag2
      have H6 := Lib.hid (And.intro (stays H5.out.1 hb6) (And.intro (stays H5.out.2.1 hb6) (And.intro (stays H5.out.2.2.1 hb6) (And.intro (H5.out.2.2.2.1.trans (hb6.mono H5.out.2.2.2.1.size)) (And.intro (H5.out.2.2.2.2.1.below hb6) (H5.out.2.2.2.2.2.1.below hb6))))))
      have hz6 : w.heap.size + 2 ≤ w6.heap.size := Nat.le_trans hz5 hb6.size
      have hg6 : g < w6.heap.size := Nat.lt_of_lt_of_le hg5 hb6.size
      clear hag hag2 hgo hb6 H5 hz5 hg5 HC'
      go_wp2_with fail
      refine hK4 _ _ (fun _ => ⟨H6.out.2.1, H6.out.1⟩) ?_
      try simp only [List.getElem_toArray, List.getElem_cons_succ, List.getElem_cons_zero, Act.put, List.setIfInBounds_toArray, List.set_cons_zero, List.set_cons_succ]
      refine turn_steady (.pointer (some ⟨g, j * 5, none⟩)) rfl rfl (fun W' hS => ?_) ?_
      · go_simp
      try simp only [List.getElem_toArray, List.getElem_cons_succ, List.getElem_cons_zero, Act.put, List.setIfInBounds_toArray, List.set_cons_zero, List.set_cons_succ]
      have hvl : (valsD l).length = l.length := valsD_len l
      obtain ⟨g', hge, -, -, hgc⟩ := H6.out.2.2.2.2.1.blk (by intro e; rw [← hvl, e] at hlt; simp at hlt) hvl.symm (valsD_all valD_len l)
      cases hge
      obtain ⟨⟨u0, p0⟩, v0⟩ := hgc j (by omega) 0 (by omega)
      obtain ⟨⟨u1, p1⟩, v1⟩ := hgc j (by omega) 1 (by omega)
      obtain ⟨⟨u2, p2⟩, v2⟩ := hgc j (by omega) 2 (by omega)
      obtain ⟨⟨u3, p3⟩, v3⟩ := hgc j (by omega) 3 (by omega)
      obtain ⟨⟨u4, p4⟩, v4⟩ := hgc j (by omega) 4 (by omega)
      rw [Nat.add_zero] at p0 v0
      have hput := H6.out.2.2.2.2.1.put (by decide) (j := j) (by omega) (cs := [.int .i64 xk, .int .i64 xn, .string xs, .slice b3 xl.length e3, .slice b4 xks.length e4]) rfl Hag.out
      have hset : (valsD l).set j (valD (.mk xk xn xs xl xks)) = valsD l := by
        rw [valsD_map, ← List.map_set]
        congr 1
        exact set_self hx0'.out
      rw [hset] at hput
      have Hput := Lib.hid hput
      clear hput hset hgc hvl
      refine turn_heavy rfl (fun K6 hK6 => ?_)
      go_wp2_with fail
      have H7 : Hid ((w6.setCells g (j * 5) [.int .i64 xk, .int .i64 xn, .string xs, .slice b3 xl.length e3, .slice b4 xks.length e4]).heap[w.heap.size]? = some (.cells #[.int .i64 k, .int .i64 n, .string s, .slice (some ⟨g, 0, none⟩) l.length cO, .slice aK ks.length cK] 37 (0, 0)) ∧ (w6.setCells g (j * 5) [.int .i64 xk, .int .i64 xn, .string xs, .slice b3 xl.length e3, .slice b4 xks.length e4]).heap[w.heap.size + 1]? = some (.cells #[.int .i64 0, .int .i64 0, .string ⟨#[]⟩, .slice none 0 0, .slice none 0 0] 37 (0, 0)) ∧ Below w.heap.size w (w6.setCells g (j * 5) [.int .i64 xk, .int .i64 xn, .string xs, .slice b3 xl.length e3, .slice b4 xks.length e4]) ∧ OwnD (fun b => F b ∨ m ≤ b) (w6.setCells g (j * 5) [.int .i64 xk, .int .i64 xn, .string xs, .slice b3 xl.length e3, .slice b4 xks.length e4]) m 37 5 (.slice (some ⟨g, 0, none⟩) l.length cO) (valsD l) ∧ RowAt (fun b => w.heap.size + 2 ≤ b ∧ b < m) (w6.setCells g (j * 5) [.int .i64 xk, .int .i64 xn, .string xs, .slice b3 xl.length e3, .slice b4 xks.length e4]) aK (strsD ks) ∧ w.heap.size + 2 ≤ (w6.setCells g (j * 5) [.int .i64 xk, .int .i64 xn, .string xs, .slice b3 xl.length e3, .slice b4 xks.length e4]).heap.size) := Lib.hid
        ⟨(setCells_other g _ (by omega) _ _ _).trans H6.out.2.1, (setCells_other g _ (by omega) _ _ _).trans H6.out.2.2.1, below_setCells (by omega) _ _ _ H6.out.2.2.2.1, Hput.out, H6.out.2.2.2.2.2.mono (fun b hb hl => ⟨hb, by rw [setCells_size]; exact hl, setCells_other g _ (by have := hb.2; omega) _ _ _⟩), by rw [setCells_size]; exact hz6⟩
      refine hK6 _ (w6.setCells g (j * 5) [.int .i64 xk, .int .i64 xn, .string xs, .slice b3 xl.length e3, .slice b4 xks.length e4]) (fun h => absurd rfl h) ?_
      generalize World.setCells _ _ _ _ = W7 at H7 ⊢
      refine turn_end ?_
      try simp only [List.getElem_toArray, List.getElem_cons_succ, List.getElem_cons_zero, Act.put, List.setIfInBounds_toArray, List.set_cons_zero, List.set_cons_succ]
      clear p0 p1 p2 p3 p4 v0 v1 v2 v3 v4 Hput H6 Hag hx0'
      go_wp2_with fail
      go_roundw
      case rel => exact ⟨j + 1, by go_num, by omega, H7⟩
      case measure => simp only [intOf]; omega
    · have hje : j = l.length := by omega
      obtain ⟨z0, z1, z2, z3, z4, z5, z6, z7, z8, z9, z10⟩ := five_facts hst.out.1
      obtain ⟨r0, r1, r2, r3, r4, r5, r6, r7, r8, r9, r10⟩ := five_facts hst.out.2.1
      obtain ⟨aO2, cO2, hvO, hrO⟩ := (hst.out.2.2.2.1.wider (G := fun b => F b ∨ m ≤ b) fun b hb => hb).rowAt (fun g hg => .inr (hst.out.2.2.2.1.block_lt hg).1)
      rw [valsD_len] at hvO
      injection hvO with e1 e2 e3
      subst e1
      subst e3
      have HO := Lib.hid hrO
      have HF2 := HF
      go_wp2_with fail
      have hend := val_set (n := w.heap.size) (b := w.heap.size + 1) (by omega) hst.out.2.2.1 hst.out.2.1 (.int .i64 k) (.int .i64 n) (.string s) (.slice aO l.length cO) (.slice aK ks.length cK)
      have hrow := HO.out.mono (w' := wr.setCells (w.heap.size + 1) 0 [.int .i64 k, .int .i64 n, .string s, .slice aO l.length cO, .slice aK ks.length cK]) (G := fun b => F b ∨ w.heap.size ≤ b) (fun b hb hl => ⟨by rcases hb with h | h; exact .inl h; exact .inr (by omega), by rw [setCells_size]; exact hl, setCells_other _ _ (by rcases hb with h | h; (have := HF.out b h; omega); omega) _ _ _⟩)
      have hrowK := hst.out.2.2.2.2.1.mono (w' := wr.setCells (w.heap.size + 1) 0 [.int .i64 k, .int .i64 n, .string s, .slice aO l.length cO, .slice aK ks.length cK]) (G := fun b => F b ∨ w.heap.size ≤ b) (fun b hb hl => ⟨.inr (by have := hb.1; omega), by rw [setCells_size]; exact hl, setCells_other _ _ (by have := hb.1; omega) _ _ _⟩)
      refine bodyPost_ret (w := wr.setCells (w.heap.size + 1) 0 [.int .i64 k, .int .i64 n, .string s, .slice aO l.length cO, .slice aK ks.length cK]) (v := .agg #[.int .i64 k, .int .i64 n, .string s, .slice aO l.length cO, .slice aK ks.length cK]) ?_ rfl ?_
      · generalize World.setCells _ _ _ _ = W9 at hend ⊢
        obtain ⟨t0, t1, t2, t3, t4, t5, t6, t7, t8, t9, t10⟩ := five_facts hend.1
        simp [results, Tryz.results21, go_sem, t1, t2, t3, t4, t5]
      · exact ⟨hend.2, _, rfl, AggAt.val_mk k n s cO cK hrow hrowK⟩
/-- A value that may be, copied. -/
theorem copied_any (v : Vl) : checkV v = true → CopyC v :=
  Vl.rec (motive_1 := fun v => checkV v = true → CopyC v) (motive_2 := fun l => ∀ x ∈ l, checkV x = true → CopyC x)
    (fun k n s l ks ih h F a1 c1 a2 c2 w hF hr1 hr2 => copied_node k n s l ks h (fun x hx => ih x hx (check_items h x hx)) F a1 c1 a2 c2 w hF hr1 hr2)
    (fun x hx => by cases hx)
    (fun v t hv ht x hx h => by
      rcases List.mem_cons.1 hx with rfl | hx
      · exact hv h
      · exact ht x hx h) v
end Go.Proofs.YthknljeffpbbmaaGreatDoor
namespace Go.Proofs.YthknljeffpbbmaaGreatDoor
open Go Go.RowKit

theorem infoAttr : (Tryz.prog.info? 55).map (fun i => (i.zero, i.size, i.bytes)) = some (some (.agg #[.string ByteArray.empty, .int .i64 0, .bool false, .int .i64 0, .int .i64 0, .string ByteArray.empty, .slice none 0 0, .slice none 0 0]), 8, 112) := by kernel_rfl
theorem typesAt0 (W : World) : (Instr.index 199 (.agg #[.string ⟨#[]⟩, .string ⟨#[116, 101, 120, 116]⟩, .string ⟨#[98, 111, 111, 108]⟩, .string ⟨#[105, 110, 116]⟩, .string ⟨#[116, 101, 120, 116, 115]⟩, .string ⟨#[102, 105, 108, 101, 115]⟩, .string ⟨#[108, 97, 98, 101, 108, 115]⟩]) (.int .i64 0)).run Tryz.prog W = .ok (.string ⟨#[]⟩) W := by kernel_rfl
theorem typesAt1 (W : World) : (Instr.index 199 (.agg #[.string ⟨#[]⟩, .string ⟨#[116, 101, 120, 116]⟩, .string ⟨#[98, 111, 111, 108]⟩, .string ⟨#[105, 110, 116]⟩, .string ⟨#[116, 101, 120, 116, 115]⟩, .string ⟨#[102, 105, 108, 101, 115]⟩, .string ⟨#[108, 97, 98, 101, 108, 115]⟩]) (.int .i64 1)).run Tryz.prog W = .ok (.string ⟨#[116, 101, 120, 116]⟩) W := by kernel_rfl
theorem typesAt2 (W : World) : (Instr.index 199 (.agg #[.string ⟨#[]⟩, .string ⟨#[116, 101, 120, 116]⟩, .string ⟨#[98, 111, 111, 108]⟩, .string ⟨#[105, 110, 116]⟩, .string ⟨#[116, 101, 120, 116, 115]⟩, .string ⟨#[102, 105, 108, 101, 115]⟩, .string ⟨#[108, 97, 98, 101, 108, 115]⟩]) (.int .i64 2)).run Tryz.prog W = .ok (.string ⟨#[98, 111, 111, 108]⟩) W := by kernel_rfl
theorem typesAt3 (W : World) : (Instr.index 199 (.agg #[.string ⟨#[]⟩, .string ⟨#[116, 101, 120, 116]⟩, .string ⟨#[98, 111, 111, 108]⟩, .string ⟨#[105, 110, 116]⟩, .string ⟨#[116, 101, 120, 116, 115]⟩, .string ⟨#[102, 105, 108, 101, 115]⟩, .string ⟨#[108, 97, 98, 101, 108, 115]⟩]) (.int .i64 3)).run Tryz.prog W = .ok (.string ⟨#[105, 110, 116]⟩) W := by kernel_rfl
theorem typesAt4 (W : World) : (Instr.index 199 (.agg #[.string ⟨#[]⟩, .string ⟨#[116, 101, 120, 116]⟩, .string ⟨#[98, 111, 111, 108]⟩, .string ⟨#[105, 110, 116]⟩, .string ⟨#[116, 101, 120, 116, 115]⟩, .string ⟨#[102, 105, 108, 101, 115]⟩, .string ⟨#[108, 97, 98, 101, 108, 115]⟩]) (.int .i64 4)).run Tryz.prog W = .ok (.string ⟨#[116, 101, 120, 116, 115]⟩) W := by kernel_rfl
theorem typesAt5 (W : World) : (Instr.index 199 (.agg #[.string ⟨#[]⟩, .string ⟨#[116, 101, 120, 116]⟩, .string ⟨#[98, 111, 111, 108]⟩, .string ⟨#[105, 110, 116]⟩, .string ⟨#[116, 101, 120, 116, 115]⟩, .string ⟨#[102, 105, 108, 101, 115]⟩, .string ⟨#[108, 97, 98, 101, 108, 115]⟩]) (.int .i64 5)).run Tryz.prog W = .ok (.string ⟨#[102, 105, 108, 101, 115]⟩) W := by kernel_rfl
def filesB : ByteArray := ⟨#[102, 105, 108, 101, 115]⟩
set_option maxRecDepth 100000 in
set_option maxHeartbeats 2000000 in
theorem typeOf_any (w : World) : Calls Tryz.prog 130 #[.string ⟨#[102, 105, 108, 101, 115]⟩] w (fun e w' => e = .returned (.int .i64 5) ∧ Below w.heap.size w w') := by
  have hb := Lib.hid ((Below.refl _ w).alloc (Nat.le_refl _) (.cells #[.string ⟨#[]⟩, .string ⟨#[116, 101, 120, 116]⟩, .string ⟨#[98, 111, 111, 108]⟩, .string ⟨#[105, 110, 116]⟩, .string ⟨#[116, 101, 120, 116, 115]⟩, .string ⟨#[102, 105, 108, 101, 115]⟩, .string ⟨#[108, 97, 98, 101, 108, 115]⟩] 199))
  go_enter Tryz.func130, Tryz.ntmps130
  go_wp2_with fail
  go_loop [8] (fun i => i = .int .i64 0 ∨ i = .int .i64 1 ∨ i = .int .i64 2 ∨ i = .int .i64 3 ∨ i = .int .i64 4 ∨ i = .int .i64 5) (fun i => 6 - (intOf i).toNat)
  case atStart => exact .inl rfl
  case round =>
    rcases hrel with rfl | rfl | rfl | rfl | rfl | rfl
    · have hix := typesAt0
      go_wp2_with fail
      go_round
      case rel => exact .inr (.inl (by go_num))
      case measure => simp [intOf]
    · have hix := typesAt1
      go_wp2_with fail
      go_round
      case rel => exact .inr (.inr (.inl (by go_num)))
      case measure => simp [intOf]
    · have hix := typesAt2
      go_wp2_with fail
      go_round
      case rel => exact .inr (.inr (.inr (.inl (by go_num))))
      case measure => simp [intOf]
    · have hix := typesAt3
      go_wp2_with fail
      go_round
      case rel => exact .inr (.inr (.inr (.inr (.inl (by go_num)))))
      case measure => simp [intOf]
    · have hix := typesAt4
      go_wp2_with fail
      go_round
      case rel => exact .inr (.inr (.inr (.inr (.inr (by go_num)))))
      case measure => simp [intOf]
    · have hix := typesAt5
      go_wp2_with fail
      go_ret
      exact ⟨rfl, (Below.refl _ w).alloc (Nat.le_refl _) _⟩

def ownL : List AttrP := [⟨⟨#[110, 97, 109, 101]⟩, 1, true, vZero⟩, ⟨⟨#[115, 101, 101, 110]⟩, 4, false, .mk 4 0 ⟨#[]⟩ [.mk 3 0 ⟨#[58, 104, 101, 114, 101]⟩ [] []] []⟩]
def POwn (w : World) (e : Ending) (w' : World) : Prop := Below w.heap.size w w' ∧ ∃ b : Nat, w.heap.size ≤ b ∧ e = .returned (.slice (some ⟨b, 0, none⟩) 2 2) ∧ OwnD (fun k => w.heap.size ≤ k) w' w.heap.size 55 8 (.slice (some ⟨b, 0, none⟩) 2 2) (attrsD ownL)
set_option maxRecDepth 100000 in
set_option maxHeartbeats 2000000 in
theorem own_any (w : World) : Calls Tryz.prog 105 #[] w (POwn w) := by
  obtain ⟨h1, h2, h3, h4, h5⟩ := alloc3 w (.cells #[.int .i64 3, .int .i64 0, .string ⟨#[58, 104, 101, 114, 101]⟩, .slice none 0 0, .slice none 0 0] 37) (.cells #[.int .i64 4, .int .i64 0, .string ⟨#[]⟩, .slice (some ⟨w.heap.size, 0, none⟩) 1 1, .slice none 0 0] 37)
    (.cells #[.string ⟨#[110, 97, 109, 101]⟩, .int .i64 1, .bool true, .int .i64 0, .int .i64 0, .string ⟨#[]⟩, .slice none 0 0, .slice none 0 0, .string ⟨#[115, 101, 101, 110]⟩, .int .i64 4, .bool false, .int .i64 4, .int .i64 0, .string ⟨#[]⟩, .slice (some ⟨w.heap.size, 0, none⟩) 1 1, .slice none 0 0] 55)
  have H := Lib.hid (And.intro h1 (And.intro h3 h4))
  clear h1 h2 h3 h4 h5
  go_enter Tryz.func105, Tryz.ntmps105
  go_wp2_with fail
  generalize World.alloc _ _ = W at H ⊢
  refine bodyPost_ret (v := .slice (some ⟨w.heap.size + 1 + 1, 0, none⟩) 2 2) (by simp [results, Tryz.results105, go_sem]) rfl ?_
  refine ⟨H.out.2.2, _, by omega, rfl, [[.string ⟨#[110, 97, 109, 101]⟩, .int .i64 1, .bool true, .int .i64 0, .int .i64 0, .string ⟨#[]⟩, .slice none 0 0, .slice none 0 0], [.string ⟨#[115, 101, 101, 110]⟩, .int .i64 4, .bool false, .int .i64 4, .int .i64 0, .string ⟨#[]⟩, .slice (some ⟨w.heap.size, 0, none⟩) 1 1, .slice none 0 0]], rfl, ?_, ?_, ?_⟩
  · intro cs hcs
    simp at hcs
    rcases hcs with rfl | rfl <;> rfl
  · refine ⟨rfl, .inr ⟨w.heap.size + 1 + 1, 2, _, rfl, by omega, H.out.2.1, by decide, by unfold maxLen; decide, rfl, rfl⟩⟩
  · intro j ds cs h1 h2
    have hrow : RowAt (fun b => w.heap.size ≤ b ∧ (Value.slice (some ⟨w.heap.size + 1 + 1, 0, none⟩) 2 2).ownBlock ≠ some b) W (some ⟨w.heap.size, 0, none⟩) (valsD [.mk 3 0 ⟨#[58, 104, 101, 114, 101]⟩ [] []]) := by
      intro i d hi
      obtain ⟨hlt, hc, -⟩ := block_facts H.out.1
      cases i with
      | zero =>
        simp [valsD] at hi
        subst hi
        refine ⟨w.heap.size, 0, [.int .i64 3, .int .i64 0, .string ⟨#[58, 104, 101, 114, 101]⟩, .slice none 0 0, .slice none 0 0], rfl, ⟨Nat.le_refl _, fun e => by
          have : w.heap.size + 1 + 1 = w.heap.size := by simpa [Value.ownBlock] using e
          omega⟩, hlt, AggAt.val_mk (l := []) (ks := []) _ _ _ _ _ (RowAt.nil _) (RowAt.nil _), fun k u hu => ?_⟩
        simp only [Nat.zero_mul, Nat.zero_add, Nat.add_zero]
        rw [hc]
        simpa using hu
      | succ i => simp [valsD] at hi
    match j, h1, h2 with
    | 0, h1, h2 =>
      simp [attrsD, ownL] at h1 h2
      subst h1
      subst h2
      exact AggAt.attr_mk (l := []) (ks := []) _ _ _ _ _ _ _ _ (RowAt.nil _) (RowAt.nil _)
    | 1, h1, h2 =>
      simp [attrsD, ownL] at h1 h2
      subst h1
      subst h2
      exact AggAt.attr_mk (l := [.mk 3 0 ⟨#[58, 104, 101, 114, 101]⟩ [] []]) (ks := []) _ _ _ _ _ _ 1 0 hrow (RowAt.nil _)
    | j + 2, h1, _ => simp [attrsD, ownL] at h1
set_option maxRecDepth 100000 in
set_option maxHeartbeats 2000000 in
theorem find_none (s : ByteArray) (w : World) : Calls Tryz.prog 10 #[.slice none 0 0, .string s] w (fun e w' => e = .returned (.tuple #[.agg #[.string ⟨#[]⟩, .slice none 0 0, .slice none 0 0, .int .i64 0, .int .i64 0], .bool false]) ∧ Below w.heap.size w w') := by
  have hw0 := heap_alloc_new w (.cells #[.string ⟨#[]⟩, .slice none 0 0, .slice none 0 0, .int .i64 0, .int .i64 0] 27)
  have H := Lib.hid (And.intro hw0 ((Below.refl _ w).alloc (Nat.le_refl _) (.cells #[.string ⟨#[]⟩, .slice none 0 0, .slice none 0 0, .int .i64 0, .int .i64 0] 27)))
  clear hw0
  go_enter Tryz.func10, Tryz.ntmps10
  go_wp2_with fail
  generalize World.alloc _ _ = W at H ⊢
  go_loop [10] (fun i => i = .int .i64 0) (fun _ => 0)
  case atStart => rfl
  case round =>
    obtain rfl := hrel
    obtain ⟨q0, q1, q2, q3, q4, q5, q6, q7, q8, q9, q10⟩ := five_facts H.out.1
    go_wp2_with fail
    have hend := val_set (n := w.heap.size) (b := w.heap.size) (Nat.le_refl _) H.out.2 H.out.1 (.string ⟨#[]⟩) (.slice none 0 0) (.slice none 0 0) (.int .i64 0) (.int .i64 0)
    refine bodyPost_ret (w := W.setCells w.heap.size 0 [.string ⟨#[]⟩, .slice none 0 0, .slice none 0 0, .int .i64 0, .int .i64 0]) (v := .tuple #[.agg #[.string ⟨#[]⟩, .slice none 0 0, .slice none 0 0, .int .i64 0, .int .i64 0], .bool false]) ?_ rfl ?_
    · generalize World.setCells _ _ _ _ = W9 at hend ⊢
      obtain ⟨t0, t1, t2, t3, t4, t5, -⟩ := five_facts hend.1
      simp [results, Tryz.results10, go_sem, t1, t2, t3, t4, t5]
    · exact ⟨rfl, hend.2⟩
end Go.Proofs.YthknljeffpbbmaaGreatDoor
namespace Go.Proofs.YthknljeffpbbmaaGreatDoor
open Go Go.RowKit

def srcA : Array Value := #[.string ⟨#[115, 114, 99]⟩, .int .i64 5, .bool true, .int .i64 0, .int .i64 0, .string ⟨#[]⟩, .slice none 0 0, .slice none 0 0]
def faultZ : Array Value := #[.int .i64 0, .int .i64 0, .int .i64 0]
theorem attr_set {n b : Nat} {w W : World} {c0 c1 c2 c3 c4 c5 c6 c7 : Value} {t : TypeId} (hn : n ≤ b) (hb : Below n w W) (hr : W.heap[b]? = some (.cells #[c0, c1, c2, c3, c4, c5, c6, c7] t (0, 0))) (v0 v1 v2 v3 v4 v5 v6 v7 : Value) :
    (W.setCells b 0 [v0, v1, v2, v3, v4, v5, v6, v7]).heap[b]? = some (.cells #[v0, v1, v2, v3, v4, v5, v6, v7] t (0, 0)) ∧ Below n w (W.setCells b 0 [v0, v1, v2, v3, v4, v5, v6, v7]) :=
  ⟨by
    have h := setCells_block b [v0, v1, v2, v3, v4, v5, v6, v7] 0 W _ t (0, 0) hr
    have e : wrote #[c0, c1, c2, c3, c4, c5, c6, c7] 0 [v0, v1, v2, v3, v4, v5, v6, v7] = #[v0, v1, v2, v3, v4, v5, v6, v7] := by simp [wrote]
    rw [e] at h
    exact h, below_setCells hn _ _ _ hb⟩
theorem three_set {n b : Nat} {w W : World} {c0 c1 c2 : Value} {t : TypeId} (hn : n ≤ b) (hb : Below n w W) (hr : W.heap[b]? = some (.cells #[c0, c1, c2] t (0, 0))) (v0 v1 v2 : Value) :
    (W.setCells b 0 [v0, v1, v2]).heap[b]? = some (.cells #[v0, v1, v2] t (0, 0)) ∧ Below n w (W.setCells b 0 [v0, v1, v2]) :=
  ⟨setCells_block b [v0, v1, v2] 0 W _ t (0, 0) hr, below_setCells hn _ _ _ hb⟩
theorem a8w_facts {w : World} {b : Nat} {c0 c1 c2 c3 c4 c5 c6 c7 : Value} {t : TypeId} (h : w.heap[b]? = some (.cells #[c0, c1, c2, c3, c4, c5, c6, c7] t (0, 0))) : b < w.heap.size ∧ w.cell? ⟨b, 0, none⟩ = some c0 ∧ w.cell? ⟨b, 1, none⟩ = some c1 ∧ w.cell? ⟨b, 2, none⟩ = some c2 ∧ w.cell? ⟨b, 3, none⟩ = some c3 ∧ w.cell? ⟨b, 4, none⟩ = some c4 ∧ w.cell? ⟨b, 5, none⟩ = some c5 ∧ w.cell? ⟨b, 6, none⟩ = some c6 ∧ w.cell? ⟨b, 7, none⟩ = some c7 ∧
    w.frozen? ⟨b, 0, none⟩ = false ∧ w.frozen? ⟨b, 1, none⟩ = false ∧ w.frozen? ⟨b, 2, none⟩ = false ∧ w.frozen? ⟨b, 3, none⟩ = false ∧ w.frozen? ⟨b, 4, none⟩ = false ∧ w.frozen? ⟨b, 5, none⟩ = false ∧ w.frozen? ⟨b, 6, none⟩ = false ∧ w.frozen? ⟨b, 7, none⟩ = false := by
  obtain ⟨h1, h2, h3⟩ := block_facts h
  exact ⟨h1, h2 0, h2 1, h2 2, h2 3, h2 4, h2 5, h2 6, h2 7, h3 0, h3 1, h3 2, h3 3, h3 4, h3 5, h3 6, h3 7⟩

set_option maxRecDepth 100000 in
set_option maxHeartbeats 8000000 in
theorem attr_any (F : Nat → Prop) (kb ko kc b : Nat) (w : World) (hw : StdB w) (hk : w.cell? ⟨kb, ko + 1, none⟩ = some (.string ⟨#[102, 105, 108, 101, 115]⟩)) (hr : RowAt F w (some ⟨b, 0, none⟩) (attrsD ownL)) :
    Calls Tryz.prog 106 #[.agg #[.int .i64 7, .string ⟨#[115, 114, 99]⟩, .int .i64 1, .int .i64 11, .slice (some ⟨kb, ko, none⟩) 1 kc], .slice (some ⟨b, 0, none⟩) 2 2] w (fun e w' => e = .returned (.tuple #[.agg srcA, .agg faultZ]) ∧ Below w.heap.size w w') := by
  obtain ⟨h1, h2, h3, h4, h5⟩ := alloc3 w (.cells #[.int .i64 7, .string ⟨#[115, 114, 99]⟩, .int .i64 1, .int .i64 11, .slice (some ⟨kb, ko, none⟩) 1 kc] 83) (.cells #[.string ⟨#[]⟩, .int .i64 0, .bool false, .int .i64 0, .int .i64 0, .string ⟨#[]⟩, .slice none 0 0, .slice none 0 0] 55) (.cells #[.int .i64 0, .int .i64 0, .int .i64 0] 114)
  have H0 := Lib.hid (And.intro h1 (And.intro h2 (And.intro h3 h4)))
  have Hk := Lib.hid (And.intro hk (block_of_cell hk))
  have Hr := Lib.hid hr
  have Hw := Lib.hid hw
  clear h1 h2 h3 h4 h5 hk hr hw
  go_enter Tryz.func106, Tryz.ntmps106
  go_upto_region 1 with fail
  go_cut [6] from 9 to 21 (fun v wc => ∃ g : Nat, v = .pointer (some ⟨g, 0, none⟩) ∧ Hid (wc.heap[g]? = some (.cells #[.string ⟨#[115, 114, 99]⟩, .int .i64 5, .bool true, .int .i64 0, .int .i64 0, .string ⟨#[]⟩, .slice none 0 0, .slice none 0 0] 55 (0, 0)) ∧ wc.heap[w.heap.size + 1]? = some (.cells #[.string ⟨#[]⟩, .int .i64 0, .bool false, .int .i64 0, .int .i64 0, .string ⟨#[]⟩, .slice none 0 0, .slice none 0 0] 55 (0, 0)) ∧ wc.heap[w.heap.size + 1 + 1]? = some (.cells #[.int .i64 0, .int .i64 0, .int .i64 0] 114 (0, 0)) ∧ Below w.heap.size w wc))
  case first =>
    obtain ⟨Wd, hWd⟩ : ∃ Wd, Wd = ((((w.alloc (.cells #[.int .i64 7, .string ⟨#[115, 114, 99]⟩, .int .i64 1, .int .i64 11, .slice (some ⟨kb, ko, none⟩) 1 kc] 83)).alloc (.cells #[.string ⟨#[]⟩, .int .i64 0, .bool false, .int .i64 0, .int .i64 0, .string ⟨#[]⟩, .slice none 0 0, .slice none 0 0] 55)).alloc (.cells #[.int .i64 0, .int .i64 0, .int .i64 0] 114)).drew) := ⟨_, rfl⟩
    have H1 : Hid (Wd.heap[w.heap.size]? = some (.cells #[.int .i64 7, .string ⟨#[115, 114, 99]⟩, .int .i64 1, .int .i64 11, .slice (some ⟨kb, ko, none⟩) 1 kc] 83 (0, 0)) ∧ Wd.heap[w.heap.size + 1]? = some (.cells #[.string ⟨#[]⟩, .int .i64 0, .bool false, .int .i64 0, .int .i64 0, .string ⟨#[]⟩, .slice none 0 0, .slice none 0 0] 55 (0, 0)) ∧ Wd.heap[w.heap.size + 1 + 1]? = some (.cells #[.int .i64 0, .int .i64 0, .int .i64 0] 114 (0, 0)) ∧ Below w.heap.size w Wd) := Lib.hid (by rw [hWd]; exact ⟨H0.out.1, H0.out.2.1, H0.out.2.2.1, H0.out.2.2.2.drew⟩)
    clear H0 Hr Hw
    refine wp_region_turns (.s 0 (.s 1 (.s 2 (.s 3 (.s 4 (.s 5 (.s 6 (.s 8 (.s 9 (.s 10 (.s 11 (.b 7 (.s 12 (.h 13 (.h 14 .nil))) 13 (.h 7 (.s 12 (.h 14 .nil))))))))))))))) 14 (fun W' => Below Wd.heap.size Wd W') (by kernel_rfl) (by kernel_rfl) (fun c a d v w h => by cases d <;> exact h) (by rw [hWd]; exact Below.refl _ _) ?_
    rw [← hWd]
    clear hWd
    have hkl := Lib.hid (And.intro (Nat.lt_of_lt_of_le Hk.out.2 H1.out.2.2.2.size) ((H1.out.2.2.2.cell (p := ⟨kb, ko + 1, none⟩) Hk.out.2).trans Hk.out.1))
    refine turn_steady (.pointer (some ⟨w.heap.size, 1, none⟩)) rfl rfl (fun W' hS => ?_) ?_
    · obtain ⟨z0, z1, z2, z3, z4, z5, -⟩ := five_facts (stays H1.out.1 hS)
      clear hS
      go_simp
    try simp only [List.getElem_toArray, List.getElem_cons_zero, Act.put, List.setIfInBounds_toArray, List.set_cons_zero, List.set_cons_succ]
    refine turn_steady (.string ⟨#[115, 114, 99]⟩) rfl rfl (fun W' hS => ?_) ?_
    · obtain ⟨z0, z1, z2, z3, z4, z5, -⟩ := five_facts (stays H1.out.1 hS)
      clear hS
      go_simp
    try simp only [List.getElem_toArray, List.getElem_cons_succ, List.getElem_cons_zero, Act.put, List.setIfInBounds_toArray, List.set_cons_zero, List.set_cons_succ]
    refine turn_steady (.pointer (some ⟨w.heap.size, 4, none⟩)) rfl rfl (fun W' hS => ?_) ?_
    · obtain ⟨z0, z1, z2, z3, z4, z5, -⟩ := five_facts (stays H1.out.1 hS)
      clear hS
      go_simp
    try simp only [List.getElem_toArray, List.getElem_cons_succ, List.getElem_cons_zero, Act.put, List.setIfInBounds_toArray, List.set_cons_zero, List.set_cons_succ]
    refine turn_steady (.slice (some ⟨kb, ko, none⟩) 1 kc) rfl rfl (fun W' hS => ?_) ?_
    · obtain ⟨z0, z1, z2, z3, z4, z5, -⟩ := five_facts (stays H1.out.1 hS)
      clear hS
      go_simp
    try simp only [List.getElem_toArray, List.getElem_cons_succ, List.getElem_cons_zero, Act.put, List.setIfInBounds_toArray, List.set_cons_zero, List.set_cons_succ]
    refine turn_steady (.pointer (some ⟨kb, ko, none⟩)) rfl rfl (fun W' hS => ?_) ?_
    · go_simp
    try simp only [List.getElem_toArray, List.getElem_cons_succ, List.getElem_cons_zero, Act.put, List.setIfInBounds_toArray, List.set_cons_zero, List.set_cons_succ]
    refine turn_steady (.pointer (some ⟨kb, ko + 1, none⟩)) rfl rfl (fun W' hS => ?_) ?_
    · have z1 := (hS.cell (p := ⟨kb, ko + 1, none⟩) hkl.out.1).trans hkl.out.2
      have z0 := block_of_cell z1
      clear hS
      go_simp
    try simp only [List.getElem_toArray, List.getElem_cons_succ, List.getElem_cons_zero, Act.put, List.setIfInBounds_toArray, List.set_cons_zero, List.set_cons_succ]
    refine turn_steady (.string ⟨#[102, 105, 108, 101, 115]⟩) rfl rfl (fun W' hS => ?_) ?_
    · have z1 := (hS.cell (p := ⟨kb, ko + 1, none⟩) hkl.out.1).trans hkl.out.2
      have z0 := block_of_cell z1
      clear hS
      go_simp
    try simp only [List.getElem_toArray, List.getElem_cons_succ, List.getElem_cons_zero, Act.put, List.setIfInBounds_toArray, List.set_cons_zero, List.set_cons_succ]
    refine turn_steady (.pointer (some ⟨w.heap.size, 4, none⟩)) rfl rfl (fun W' hS => ?_) ?_
    · obtain ⟨z0, z1, z2, z3, z4, z5, -⟩ := five_facts (stays H1.out.1 hS)
      clear hS
      go_simp
    try simp only [List.getElem_toArray, List.getElem_cons_succ, List.getElem_cons_zero, Act.put, List.setIfInBounds_toArray, List.set_cons_zero, List.set_cons_succ]
    refine turn_steady (.slice (some ⟨kb, ko, none⟩) 1 kc) rfl rfl (fun W' hS => ?_) ?_
    · obtain ⟨z0, z1, z2, z3, z4, z5, -⟩ := five_facts (stays H1.out.1 hS)
      clear hS
      go_simp
    try simp only [List.getElem_toArray, List.getElem_cons_succ, List.getElem_cons_zero, Act.put, List.setIfInBounds_toArray, List.set_cons_zero, List.set_cons_succ]
    refine turn_steady (.int .i64 1) rfl rfl (fun W' hS => ?_) ?_
    · go_simp
    try simp only [List.getElem_toArray, List.getElem_cons_succ, List.getElem_cons_zero, Act.put, List.setIfInBounds_toArray, List.set_cons_zero, List.set_cons_succ]
    refine turn_steady (.bool true) rfl rfl (fun W' hS => ?_) ?_
    · go_simp
    try simp only [List.getElem_toArray, List.getElem_cons_succ, List.getElem_cons_zero, Act.put, List.setIfInBounds_toArray, List.set_cons_zero, List.set_cons_succ]
    refine turn_both rfl rfl (fun K7 hK7 => ?_) (fun K13 hK13 => ?_)
    · go_wp2_with fail
      refine (typeOf_any _).mono ?_
      rintro e w1 ⟨rfl, hb1⟩
      have hba : Below w1.heap.size w1 (w1.alloc (.cells #[.string ⟨#[]⟩, .int .i64 0, .bool false, .int .i64 0, .int .i64 0, .string ⟨#[]⟩, .slice none 0 0, .slice none 0 0] 55)) := (Below.refl _ _).alloc (Nat.le_refl _) _
      have HB1 := Lib.hid (And.intro hb1 (hb1.trans (hba.mono hb1.size)))
      have hbc : Below w1.heap.size w1 (w1.alloc (.cells #[.string ⟨#[115, 114, 99]⟩, .int .i64 5, .bool true, .int .i64 0, .int .i64 0, .string ⟨#[]⟩, .slice none 0 0, .slice none 0 0] 55)) := (Below.refl _ _).alloc (Nat.le_refl _) _
      have HC := Lib.hid (And.intro (heap_alloc_new w1 (.cells #[.string ⟨#[115, 114, 99]⟩, .int .i64 5, .bool true, .int .i64 0, .int .i64 0, .string ⟨#[]⟩, .slice none 0 0, .slice none 0 0] 55)) (And.intro (stays H1.out.2.1 (hb1.trans (hbc.mono hb1.size))) (And.intro (stays H1.out.2.2.1 (hb1.trans (hbc.mono hb1.size))) (H1.out.2.2.2.trans ((hb1.trans (hbc.mono hb1.size)).mono H1.out.2.2.2.size)))))
      clear hb1 hba hbc H1 Hk hkl
      go_wp2_with fail
      refine hK7 _ _ (fun _ => HB1.out.1) ?_
      try simp only [List.getElem_toArray, List.getElem_cons_succ, List.getElem_cons_zero, Act.put, List.setIfInBounds_toArray, List.set_cons_zero, List.set_cons_succ]
      refine turn_steady (.agg #[.string ⟨#[115, 114, 99]⟩, .int .i64 5, .bool true, .int .i64 0, .int .i64 0, .string ⟨#[]⟩, .slice none 0 0, .slice none 0 0]) rfl rfl (fun W' hS => ?_) ?_
      · go_simp
      try simp only [List.getElem_toArray, List.getElem_cons_succ, List.getElem_cons_zero, Act.put, List.setIfInBounds_toArray, List.set_cons_zero, List.set_cons_succ]
      refine turn_heavy rfl (fun K13 hK13 => ?_)
      go_wp2_with fail
      refine hK13 _ _ (fun _ => HB1.out.2) ?_
      try simp only [List.getElem_toArray, List.getElem_cons_succ, List.getElem_cons_zero, Act.put, List.setIfInBounds_toArray, List.set_cons_zero, List.set_cons_succ]
      refine turn_heavy rfl (fun K14 hK14 => ?_)
      go_wp2_with fail
      refine hK14 _ _ (fun h => absurd rfl h) ?_
      refine turn_end ?_
      try simp only [List.getElem_toArray, List.getElem_cons_succ, List.getElem_cons_zero, Act.put, List.setIfInBounds_toArray, List.set_cons_zero, List.set_cons_succ]
      go_wp2_with fail
      go_meet
      case rel => exact ⟨_, rfl, HC⟩
    · have hba : Below Wd.heap.size Wd (Wd.alloc (.cells #[.string ⟨#[]⟩, .int .i64 0, .bool false, .int .i64 0, .int .i64 0, .string ⟨#[]⟩, .slice none 0 0, .slice none 0 0] 55)) := (Below.refl _ _).alloc (Nat.le_refl _) _
      have hn := heap_alloc_new Wd (.cells #[.string ⟨#[]⟩, .int .i64 0, .bool false, .int .i64 0, .int .i64 0, .string ⟨#[]⟩, .slice none 0 0, .slice none 0 0] 55)
      have HA := Lib.hid (And.intro hn hba)
      clear hn hba
      go_wp2_with fail
      refine hK13 _ _ (fun _ => HA.out.2) ?_
      try simp only [List.getElem_toArray, List.getElem_cons_succ, List.getElem_cons_zero, Act.put, List.setIfInBounds_toArray, List.set_cons_zero, List.set_cons_succ]
      generalize World.alloc _ _ = Wa at HA ⊢
      refine turn_heavy rfl (fun K7 hK7 => ?_)
      go_wp2_with fail
      refine (typeOf_any _).mono ?_
      rintro e w1 ⟨rfl, hb1⟩
      have hb2 := HA.out.2.trans (hb1.mono HA.out.2.size)
      have h9 := stays HA.out.1 hb1
      have HB1 := Lib.hid hb2
      have hsz : w.heap.size + 1 + 1 < Wd.heap.size := here H1.out.2.2.1
      have e1 := attr_set (n := Wd.heap.size) (w := Wd) (b := Wd.heap.size) (Nat.le_refl _) hb2 h9 (.string ⟨#[115, 114, 99]⟩) (.int .i64 5) (.bool true) (.int .i64 0) (.int .i64 0) (.string ⟨#[]⟩) (.slice none 0 0) (.slice none 0 0)
      have HC := Lib.hid (And.intro e1.1 (And.intro (stays H1.out.2.1 e1.2) (And.intro (stays H1.out.2.2.1 e1.2) (H1.out.2.2.2.trans (e1.2.mono H1.out.2.2.2.size)))))
      obtain ⟨q0, q1, q2, q3, q4, q5, q6, q7, q8, q9, q10, q11, q12, q13, q14, q15, q16⟩ := a8w_facts h9
      clear hb1 hb2 h9 e1 H1 Hk hkl
      go_wp2_with fail
      refine hK7 _ _ (fun _ => HB1.out) ?_
      try simp only [List.getElem_toArray, List.getElem_cons_succ, List.getElem_cons_zero, Act.put, List.setIfInBounds_toArray, List.set_cons_zero, List.set_cons_succ]
      refine turn_steady (.agg #[.string ⟨#[115, 114, 99]⟩, .int .i64 5, .bool true, .int .i64 0, .int .i64 0, .string ⟨#[]⟩, .slice none 0 0, .slice none 0 0]) rfl rfl (fun W' hS => ?_) ?_
      · go_simp
      try simp only [List.getElem_toArray, List.getElem_cons_succ, List.getElem_cons_zero, Act.put, List.setIfInBounds_toArray, List.set_cons_zero, List.set_cons_succ]
      refine turn_heavy rfl (fun K14 hK14 => ?_)
      go_wp2_with fail
      refine hK14 _ (w1.setCells Wd.heap.size 0 [.string ⟨#[115, 114, 99]⟩, .int .i64 5, .bool true, .int .i64 0, .int .i64 0, .string ⟨#[]⟩, .slice none 0 0, .slice none 0 0]) (fun h => absurd rfl h) ?_
      generalize World.setCells _ _ _ _ = W14 at HC ⊢
      refine turn_end ?_
      try simp only [List.getElem_toArray, List.getElem_cons_succ, List.getElem_cons_zero, Act.put, List.setIfInBounds_toArray, List.set_cons_zero, List.set_cons_succ]
      clear q0 q1 q2 q3 q4 q5 q6 q7 q8 q9 q10 q11 q12 q13 q14 q15 q16
      go_wp2_with fail
      go_meet
      case rel => exact ⟨_, rfl, HC⟩
  case rest =>
    obtain ⟨g, rfl, hst⟩ := hcut
    have HT := Lib.hid (isTaken_any ⟨#[115, 114, 99]⟩ wc (Hw.out.below hst.out.2.2.2) (show (3 : Nat) < 4294967000 by decide))
    rw [show isTakenL (⟨#[115, 114, 99]⟩ : ByteArray).data.toList = false from src_free] at HT
    obtain ⟨q0, q1, q2, q3, q4, q5, q6, q7, q8, -⟩ := a8w_facts hst.out.1
    go_wp2_with fail
    refine HT.out.mono ?_
    rintro e w1 ⟨rfl, hb1⟩
    have H1 := Lib.hid (And.intro (stays hst.out.1 hb1) (And.intro (stays hst.out.2.1 hb1) (And.intro (stays hst.out.2.2.1 hb1) (hst.out.2.2.2.trans (hb1.mono hst.out.2.2.2.size)))))
    clear hb1 hst HT q0 q1 q2 q3 q4 q5 q6 q7 q8
    have HN := Lib.hid (named_any F (some ⟨b, 0, none⟩) 2 ownL ⟨#[115, 114, 99]⟩ w1 (by decide) (Hr.out.below H1.out.2.2.2))
    rw [show idxI ownL ⟨#[115, 114, 99]⟩ = -1 by kernel_rfl, show ownL.length = 2 from rfl] at HN
    obtain ⟨q0, q1, q2, q3, q4, q5, q6, q7, q8, -⟩ := a8w_facts H1.out.1
    go_wp2_with fail
    refine HN.out.mono ?_
    rintro e w2 ⟨rfl, hb2⟩
    have H2 := Lib.hid (And.intro (stays H1.out.1 hb2) (And.intro (stays H1.out.2.1 hb2) (And.intro (stays H1.out.2.2.1 hb2) (H1.out.2.2.2.trans (hb2.mono H1.out.2.2.2.size)))))
    clear hb2 H1 HN q0 q1 q2 q3 q4 q5 q6 q7 q8
    obtain ⟨q0, q1, q2, q3, q4, q5, q6, q7, q8, -⟩ := a8w_facts H2.out.1
    obtain ⟨y0, y1, y2, y3, y4, y5, y6, y7, y8, y9, y10, y11, y12, y13, y14, y15, y16⟩ := a8w_facts H2.out.2.1
    obtain ⟨z0, z1, z2, z3, z4, z5, z6⟩ := three_facts H2.out.2.2.1
    have e1 := attr_set (n := w.heap.size) (b := w.heap.size + 1) (by omega) H2.out.2.2.2 H2.out.2.1 (.string ⟨#[115, 114, 99]⟩) (.int .i64 5) (.bool true) (.int .i64 0) (.int .i64 0) (.string ⟨#[]⟩) (.slice none 0 0) (.slice none 0 0)
    go_wp2_with fail
    have e2 := three_set (n := w.heap.size) (b := w.heap.size + 1 + 1) (W := w2.setCells (w.heap.size + 1) 0 [.string ⟨#[115, 114, 99]⟩, .int .i64 5, .bool true, .int .i64 0, .int .i64 0, .string ⟨#[]⟩, .slice none 0 0, .slice none 0 0]) (by omega) e1.2 ((setCells_other (w.heap.size + 1) (w.heap.size + 1 + 1) (by omega) [.string ⟨#[115, 114, 99]⟩, .int .i64 5, .bool true, .int .i64 0, .int .i64 0, .string ⟨#[]⟩, .slice none 0 0, .slice none 0 0] 0 w2).trans H2.out.2.2.1) (.int .i64 0) (.int .i64 0) (.int .i64 0)
    have e3 := (setCells_other (w.heap.size + 1 + 1) (w.heap.size + 1) (by omega) [.int .i64 0, .int .i64 0, .int .i64 0] 0 (w2.setCells (w.heap.size + 1) 0 [.string ⟨#[115, 114, 99]⟩, .int .i64 5, .bool true, .int .i64 0, .int .i64 0, .string ⟨#[]⟩, .slice none 0 0, .slice none 0 0])).trans e1.1
    refine bodyPost_ret (w := (w2.setCells (w.heap.size + 1) 0 [.string ⟨#[115, 114, 99]⟩, .int .i64 5, .bool true, .int .i64 0, .int .i64 0, .string ⟨#[]⟩, .slice none 0 0, .slice none 0 0]).setCells (w.heap.size + 1 + 1) 0 [.int .i64 0, .int .i64 0, .int .i64 0]) (v := .tuple #[.agg #[.string ⟨#[115, 114, 99]⟩, .int .i64 5, .bool true, .int .i64 0, .int .i64 0, .string ⟨#[]⟩, .slice none 0 0, .slice none 0 0], .agg #[.int .i64 0, .int .i64 0, .int .i64 0]]) ?_ rfl ?_
    · generalize World.setCells _ _ _ _ = W9 at e2 e3 ⊢
      obtain ⟨t0, t1, t2, t3, t4, t5, t6, t7, t8, -⟩ := a8w_facts e3
      obtain ⟨u0, u1, u2, u3, -⟩ := three_facts e2.1
      simp [results, Tryz.results106, go_sem, t1, t2, t3, t4, t5, t6, t7, t8, u1, u2, u3]
    · exact ⟨rfl, e2.2⟩
end Go.Proofs.YthknljeffpbbmaaGreatDoor
namespace Go.Proofs.YthknljeffpbbmaaGreatDoor
open Go Go.RowKit

set_option maxRecDepth 100000 in
set_option maxHeartbeats 1000000 in
theorem get1_any (tx : ByteArray) (bn : Nat) (w : World) (hn : w.heap[bn]? = some (.cells #[.string ⟨#[82, 85, 76, 69, 83]⟩] 9 (0, 0))) :
    Calls Tryz.prog 99 #[.agg #[.string ⟨#[82, 85, 76, 69, 83]⟩, .string tx], .pointer (some ⟨bn, 0, none⟩)] w (fun e w' => e = .returned (.bool true) ∧ Below w.heap.size w w') := by
  obtain ⟨s0, s1⟩ := one_facts hn
  clear hn
  go_enter Tryz.func99, Tryz.ntmps99
  go_wp2_with fail
  go_ret
  exact ⟨rfl, (Below.refl _ w).alloc (Nat.le_refl _) _⟩
set_option maxRecDepth 100000 in
set_option maxHeartbeats 1000000 in
theorem idxFile_any (tx : ByteArray) (fb bn : Nat) (w : World) (hf : w.heap[fb]? = some (.cells #[.string ⟨#[82, 85, 76, 69, 83]⟩, .string tx] 87 (0, 0))) (hn : w.heap[bn]? = some (.cells #[.string ⟨#[82, 85, 76, 69, 83]⟩] 9 (0, 0))) :
    Calls Tryz.prog 98 #[.slice (some ⟨fb, 0, none⟩) 1 1, .func (.func 99) #[] #[.pointer (some ⟨bn, 0, none⟩)]] w (fun e w' => e = .returned (.int .i64 0) ∧ Below w.heap.size w w') := by
  have eg : ∀ args w, (callFunc 99 args).run Tryz.prog w = .ok (.enter 99 args) w := enters_of Tryz.func99 (by kernel_rfl) rfl
  have HG := Lib.hid (get1_any tx bn w hn)
  obtain ⟨f0, f1, f2, f3, f4⟩ := two_facts hf
  clear hf hn
  go_enter Tryz.func98, Tryz.ntmps98
  go_wp2
  go_loop [8] (fun i => i = .int .i64 0) (fun _ => 0)
  case atStart => rfl
  case round =>
    obtain rfl := hrel
    go_wp2_with fail
    refine HG.out.mono ?_
    rintro e w2 ⟨rfl, hb2⟩
    have Hb2 := Lib.hid hb2
    clear hb2 f0 f1 f2 f3 f4
    go_wp2
    go_ret
    exact ⟨rfl, Hb2.out⟩
set_option maxRecDepth 100000 in
set_option maxHeartbeats 1000000 in
theorem get_any (tx : ByteArray) (fb : Nat) (w : World) (hf : w.heap[fb]? = some (.cells #[.string ⟨#[82, 85, 76, 69, 83]⟩, .string tx] 87 (0, 0))) :
    Calls Tryz.prog 59 #[.slice (some ⟨fb, 0, none⟩) 1 1, .string ⟨#[82, 85, 76, 69, 83]⟩] w (fun e w' => e = .returned (.tuple #[.string tx, .bool true]) ∧ Below w.heap.size w w') := by
  have hb0 : Below w.heap.size w (w.alloc (.cells #[.string ⟨#[82, 85, 76, 69, 83]⟩] 9)) := (Below.refl _ w).alloc (Nat.le_refl _) _
  have HI := Lib.hid (idxFile_any tx fb w.heap.size _ (stays hf hb0) (heap_alloc_new w (.cells #[.string ⟨#[82, 85, 76, 69, 83]⟩] 9)))
  have Hf := Lib.hid (And.intro (stays hf hb0) hb0)
  clear hf hb0
  go_enter Tryz.func59, Tryz.ntmps59
  go_wp2_with fail
  refine HI.out.mono ?_
  rintro e w1 ⟨rfl, hb1⟩
  obtain ⟨f0, f1, f2, f3, f4⟩ := two_facts (stays Hf.out.1 hb1)
  have Hb1 := Lib.hid (Hf.out.2.trans (hb1.mono Hf.out.2.size))
  clear hb1
  go_wp2_with fail
  refine bodyPost_ret (v := .tuple #[.string tx, .bool true]) (by simp [results, Tryz.results59, go_sem]) rfl ?_
  exact ⟨rfl, Hb1.out⟩
end Go.Proofs.YthknljeffpbbmaaGreatDoor
