/-
  The walk of the statement GlobsSets.
-/
import Derived.Test.YtabobdmgjmgifaaDoorLawPick
import Derived.Test.YtabobdmgjmgifaaDoorStrSet
import Derived.Test.YtabobdmgjmgifaaDoorFixedPlain
namespace Go.Proofs.YtabobdmgjmgifaaDoor
open Go Go.RowKit

theorem StrsAt.lit {w : World} {b : Nat} {l : List ByteArray} (h : ∀ (j : Nat) x, l[j]? = some x → w.cell? ⟨b, j, none⟩ = some (.string x)) : StrsAt w (some ⟨b, 0, none⟩) l :=
  fun j x hx => ⟨b, 0, rfl, by rw [Nat.zero_add]; exact h j x hx⟩
theorem StrsAt.lit_new {w w' : World} {b t : Nat} {l : List ByteArray} {c : Array Value} (hb : w'.heap[b]? = some (.cells c t (0, 0))) (hc : c = (l.map Value.string).toArray) : StrsAt w' (some ⟨b, 0, none⟩) l :=
  StrsAt.lit fun j x hx => by unfold World.cell?; rw [hb, hc]; simp [hx]
theorem StrsAt.off {w w' : World} {a : Option Addr} {l : List ByteArray} {b : Nat} {es : Array MapEntry} {clock : Nat} (h : StrsAt w a l) (hm : w.heap[b]? = some (.map es clock)) (he : ∀ g, g ≠ b → w'.heap[g]? = w.heap[g]?) : StrsAt w' a l := by
  intro j x hx
  obtain ⟨g, off, ha, hc⟩ := h j x hx
  refine ⟨g, off, ha, ?_⟩
  have hg : g ≠ b := by
    rintro rfl
    unfold World.cell? at hc
    rw [hm] at hc
    cases hc
  unfold World.cell? at hc ⊢
  rw [he g hg]
  exact hc

/-- What stands of the world while the set is filled: the set itself, the rows that are read, and all that was before. -/
def SInv (w : World) (bm : Nat) (ls : List (Option Addr × List ByteArray)) (S : List ByteArray) (wr : World) : Prop :=
  SetAt wr bm S ∧ Below w.heap.size w wr ∧ w.heap.size ≤ bm ∧ ∀ x ∈ ls, StrsAt wr x.1 x.2
theorem SInv.below {w wr w' : World} {bm : Nat} {ls : List (Option Addr × List ByteArray)} {S : List ByteArray} (h : SInv w bm ls S wr) (hb : Below wr.heap.size wr w') : SInv w bm ls S w' :=
  ⟨h.1.below hb, h.2.1.trans (hb.mono h.2.1.size), h.2.2.1, fun x hx => (h.2.2.2 x hx).below hb⟩
theorem SInv.more {w wr : World} {bm : Nat} {ls ls' : List (Option Addr × List ByteArray)} {S : List ByteArray} (h : SInv w bm ls S wr) (hl : ∀ x ∈ ls', StrsAt wr x.1 x.2) : SInv w bm (ls' ++ ls) S wr :=
  ⟨h.1, h.2.1, h.2.2.1, fun x hx => by rcases List.mem_append.1 hx with hx | hx; exact hl x hx; exact h.2.2.2 x hx⟩
theorem SInv.less {w wr : World} {bm : Nat} {ls ls' : List (Option Addr × List ByteArray)} {S : List ByteArray} (h : SInv w bm (ls' ++ ls) S wr) : SInv w bm ls S wr :=
  ⟨h.1, h.2.1, h.2.2.1, fun x hx => h.2.2.2 x (List.mem_append_right _ hx)⟩
theorem SInv.put {w wr : World} {bm : Nat} {ls : List (Option Addr × List ByteArray)} {S S' : List ByteArray} (h : SInv w bm ls S wr) {o : Obj} (hs : SetAt (wr.putObj bm o) bm S') : SInv w bm ls S' (wr.putObj bm o) := by
  refine ⟨hs, below_putObj h.2.1 _ h.2.2.1, h.2.2.1, fun x hx => ?_⟩
  obtain ⟨⟨es, clock, hm, -⟩, -⟩ := h.1
  exact (h.2.2.2 x hx).off hm (fun g hg => World.putObj_heap_other hg)
theorem SInv.at {w wr : World} {bm : Nat} {ls : List (Option Addr × List ByteArray)} {S : List ByteArray} (h : SInv w bm ls S wr) {x : Option Addr × List ByteArray} (hx : x ∈ ls) : StrsAt wr x.1 x.2 := h.2.2.2 x hx

theorem len_le_of_sub {α : Type} : ∀ {l m : List α}, l.Nodup → (∀ x ∈ l, x ∈ m) → l.length ≤ m.length
  | [], _, _, _ => Nat.zero_le _
  | a :: t, m, hn, hs => by
    obtain ⟨s, u, rfl⟩ := List.append_of_mem (hs a (List.mem_cons_self ..))
    obtain ⟨h1, h2⟩ := List.nodup_cons.1 hn
    have := len_le_of_sub (l := t) (m := s ++ u) h2 (fun x hx => by
      have := hs x (List.mem_cons_of_mem _ hx)
      rw [List.mem_append, List.mem_cons] at this
      rw [List.mem_append]
      rcases this with h | rfl | h
      · exact Or.inl h
      · exact absurd hx h1
      · exact Or.inr h)
    rw [List.length_append] at this
    rw [List.length_cons, List.length_append, List.length_cons]
    omega
theorem len_eq_of_mem {α : Type} {l m : List α} (hl : l.Nodup) (hm : m.Nodup) (h : ∀ x, x ∈ l ↔ x ∈ m) : l.length = m.length :=
  Nat.le_antisymm (len_le_of_sub hl (fun x hx => (h x).1 hx)) (len_le_of_sub hm (fun x hx => (h x).2 hx))
theorem Rise.nodup {l : List ByteArray} (h : Rise l) : l.Nodup := h.imp (fun h e => by subst e; exact List.lt_irrefl _ h)

theorem gmatch_path {p s : Bs} (h : gmatch p s = true) : pathOk s = true := by
  unfold gmatch at h
  simp only [Bool.and_eq_true] at h
  exact h.1.2
theorem ganyOf_one {p x : ByteArray} : ganyOf [p] x = gmatch p.data.toList x.data.toList := by simp [ganyOf]
theorem ganyOf_two {p q x : ByteArray} : ganyOf [p, q] x = (gmatch p.data.toList x.data.toList || gmatch q.data.toList x.data.toList) := by simp [ganyOf]
theorem ganyOf_none {x : ByteArray} : ganyOf [] x = false := rfl
theorem picks_one {p x : ByteArray} : picks [p] [] x = gmatch p.data.toList x.data.toList := by rw [picks, ganyOf_one, ganyOf_none]; simp
theorem mem_pick_one {p x : ByteArray} {l : List ByteArray} : x ∈ refPickL [p] [] l ↔ x ∈ l ∧ gmatch p.data.toList x.data.toList = true := by rw [(refPickL_rise _ _ _).2, picks_one]
theorem mem_pick_two {p q n x : ByteArray} {l : List ByteArray} : x ∈ refPickL [p, q] [n] l ↔ x ∈ l ∧ (gmatch p.data.toList x.data.toList = true ∨ gmatch q.data.toList x.data.toList = true) ∧ ¬ gmatch n.data.toList x.data.toList = true := by
  rw [(refPickL_rise _ _ _).2, picks, ganyOf_two, ganyOf_one]; simp
theorem pick_again (p q n : ByteArray) (l : List ByteArray) : refPickL [⟨#[42, 42]⟩] [] (refPickL [p, q] [n] l) = refPickL [p, q] [n] l := by
  refine rise_ext (refPickL_rise _ _ _).1 (refPickL_rise _ _ _).1 (fun x => ?_)
  rw [mem_pick_one]
  refine ⟨fun h => h.1, fun h => ⟨h, gmatch_stars ?_⟩⟩
  rcases (mem_pick_two.1 h).2.1 with h | h <;> exact gmatch_path h
/-- Which of the paths one of the first k of two patterns picks. -/
def Gath (p q : ByteArray) (l : List ByteArray) (k : Nat) (x : ByteArray) : Prop := x ∈ l ∧ ((0 < k ∧ gmatch p.data.toList x.data.toList = true) ∨ (1 < k ∧ gmatch q.data.toList x.data.toList = true))
theorem Gath.next {p q : ByteArray} {l : List ByteArray} {k : Nat} (hk : k < 2) (x : ByteArray) : Gath p q l (k + 1) x ↔ Gath p q l k x ∨ x ∈ refPickL [third p q q k] [] l := by
  rw [mem_pick_one]
  unfold Gath
  obtain rfl | rfl : k = 0 ∨ k = 1 := by omega
  · simp [third]
  · simp [third, and_or_left]
theorem pick_len_le {yes no l : List ByteArray} {x : ByteArray} (h : x ∈ refPickL yes no l) : x ∈ l := ((refPickL_rise _ _ _).2 x |>.1 h).1

theorem StrsAt.cellAt {w : World} {b off : Nat} {l : List ByteArray} (h : StrsAt w (some ⟨b, off, none⟩) l) {k : Nat} (hk : k < l.length) : w.cell? ⟨b, off + k, none⟩ = some (.string l[k]) := by
  obtain ⟨b', off', he, hc⟩ := h.at hk
  cases he
  exact hc
theorem two_get {p q : ByteArray} {k : Nat} (h : k < 2) : ([p, q] : List ByteArray)[k]? = some (third p q q k) := by
  obtain rfl | rfl : k = 0 ∨ k = 1 := by omega
  · rfl
  · rfl

set_option maxRecDepth 100000 in
set_option maxHeartbeats 1000000 in
theorem lawSets_any (a : Option Addr) (cap : Nat) (l : List ByteArray) (p q n : ByteArray) (w : World) (hml : l.length ≤ maxLen)
    (hat : StrsAt w a l) (hw : Std w) :
    Calls Tryd.prog 7 #[.slice a l.length cap, .agg #[.string p, .string q, .string n]] w (PBelow true w) := by
  obtain ⟨W0, hW0⟩ : ∃ W0, W0 = w.alloc (.cells #[.string p, .string q, .string n] 33) := ⟨_, rfl⟩
  have hb0 : Below w.heap.size w W0 := by rw [hW0]; exact (Below.refl _ w).alloc (Nat.le_refl _) _
  have hz0 : w.heap.size < W0.heap.size := by rw [hW0]; simp
  have hcl : ∀ (j : Nat) v, (#[Value.string p, .string q, .string n])[j]? = some v → W0.cell? ⟨w.heap.size, j, none⟩ = some v := by
    intro j v hv
    rw [hW0]; unfold World.cell?; rw [World.alloc_heap_new]; exact hv
  have Hat := Lib.hid (hat.below hb0)
  have HW0 := Lib.hid hW0
  have Hcl := Lib.hid hcl
  clear hat hW0 hcl
  have hmm := @run_makeMap Tryd.prog
  go_enter Tryd.func7, Tryd.ntmps7
  go_wp2_with fail
  rw [← HW0.out]
  clear HW0
  refine (alive_any _ (hw.below hb0)).mono ?_
  rintro e w1 ⟨rfl, hb1⟩
  have hb01 : Below w.heap.size w w1 := hb0.trans (hb1.mono hb0.size)
  have c0 : w1.cell? ⟨w.heap.size, 0, none⟩ = some (.string p) := (hb1.cell (p := ⟨w.heap.size, 0, none⟩) hz0).trans (Hcl.out 0 _ rfl)
  have c1 : w1.cell? ⟨w.heap.size, 1, none⟩ = some (.string q) := (hb1.cell (p := ⟨w.heap.size, 1, none⟩) hz0).trans (Hcl.out 1 _ rfl)
  have c2 : w1.cell? ⟨w.heap.size, 2, none⟩ = some (.string n) := (hb1.cell (p := ⟨w.heap.size, 2, none⟩) hz0).trans (Hcl.out 2 _ rfl)
  clear Hcl
  have Hat1 := Lib.hid (Hat.out.below hb1)
  clear Hat hb0 hz0 hb1
  go_wp2_with fail
  go_quiet (fail)
  clear c0 c1 c2
  have hb2 : Below w.heap.size w (w1.drewN nq) := below_drewN hb01 nq
  obtain ⟨w2, hw2⟩ : ∃ w2, w2 = w1.drewN nq := ⟨_, rfl⟩
  rw [← hw2]
  have Hat2 : Hid (StrsAt w2 a l) := by rw [hw2]; exact Hat1
  rw [← hw2] at hb2
  clear hw2 Hat1 hb01
  by_cases hp : (40 : Int) < l.length
  · go_wp2_with fail
    go_ret
    exact ⟨rfl, hb2⟩
  by_cases hzp : (200 : Int) < p.size
  · go_wp2_with fail
    go_ret
    exact ⟨rfl, hb2⟩
  by_cases hzq : (200 : Int) < q.size
  · go_wp2_with fail
    go_ret
    exact ⟨rfl, hb2⟩
  by_cases hzn : (200 : Int) < n.size
  · go_wp2_with fail
    go_ret
    exact ⟨rfl, hb2⟩
  go_wp2_with fail
  go_loop [48] (fun i => ∃ j : Nat, i = .int .i64 j ∧ j ≤ l.length ∧ Hid (∀ x ∈ l.take j, x.size ≤ 200)) (fun i => l.length - (intOf i).toNat)
  case atStart => exact ⟨0, rfl, Nat.zero_le _, Lib.hid (fun x hx => by simp at hx)⟩
  case round =>
    obtain ⟨j, rfl, hj, hsm⟩ := hrel
    by_cases hlt : j < l.length
    · obtain ⟨b, off, hbb, hcx⟩ := Hat2.out.at hlt
      subst hbb
      have Hx : Hid (l[j].size ≤ 200 → ∀ x ∈ l.take (j + 1), x.size ≤ 200) := Lib.hid (fun h x hx => by
        rw [List.take_add_one, List.getElem?_eq_getElem hlt, Option.toList_some, List.mem_append, List.mem_singleton] at hx
        rcases hx with hx | rfl
        · exact hsm.out x hx
        · exact h)
      generalize l[j] = x at hcx Hx
      by_cases hx : (200 : Int) < x.size
      · go_wp2_with fail
        go_ret
        exact ⟨rfl, hb2⟩
      · go_wp2_with fail
        go_round
        case rel => exact ⟨j + 1, by go_num, by omega, Lib.hid (Hx.out (by omega))⟩
        case measure => simp only [intOf]; omega
    · have Hz : Hid (∀ x ∈ l, x.size ≤ 200) := Lib.hid (by have := hsm.out; rwa [List.take_of_length_le (by omega)] at this)
      clear hsm
      go_wp2_with fail
      obtain ⟨w3, hw3⟩ : ∃ w3, w3 = (w2.alloc (.cells #[.string p, .string q] 9)).alloc (.cells #[.string n] 9) := ⟨_, rfl⟩
      rw [← hw3]
      have h23 : Below w2.heap.size w2 w3 := by rw [hw3]; exact ((Below.refl _ w2).alloc (Nat.le_refl _) _).alloc (by simp) _
      have hb3 : Below w.heap.size w w3 := hb2.trans (h23.mono hb2.size)
      have hl1 : StrsAt w3 (some ⟨w2.heap.size, 0, none⟩) [p, q] := StrsAt.lit_new (w := w2) (c := #[.string p, .string q]) (t := 9) (by rw [hw3]; exact (Below.heap_alloc _ _ _ (by simp)).trans (World.alloc_heap_new w2 _)) rfl
      have hl2 : StrsAt w3 (some ⟨w2.heap.size + 1, 0, none⟩) [n] := StrsAt.lit_new (w := w2) (c := #[.string n]) (t := 9) (by rw [hw3]; have := World.alloc_heap_new (w2.alloc (.cells #[.string p, .string q] 9)) (.cells #[.string n] 9); simpa using this) rfl
      have H3 := Lib.hid (And.intro (Hat2.out.below h23) (And.intro hl1 hl2))
      clear hl1 hl2 h23 hw3
      refine (pick_any a (some ⟨w2.heap.size, 0, none⟩) (some ⟨w2.heap.size + 1, 0, none⟩) cap 2 1 l [p, q] [n] _ (by omega) (by simp) (by simp) (fun x hx => by have := Hz.out x hx; omega) (fun x hx => by simp at hx; rcases hx with rfl | rfl <;> omega) (fun x hx => by simp at hx; subst hx; omega) H3.out.1 H3.out.2.1 H3.out.2.2 (hw.below hb3)).mono ?_
      rintro e w4 h4
      obtain ⟨a3, c3, rfl, hs4, hb4⟩ := h4.same
      have hb04 : Below w.heap.size w w4 := hb3.trans (hb4.mono hb3.size)
      have H4 := Lib.hid (And.intro (H3.out.1.below hb4) hs4)
      have Hbr : Hid (Rise (refPickL [p, q] [n] l)) := Lib.hid (refPickL_rise _ _ _).1
      have Hbm : Hid (∀ x, x ∈ refPickL [p, q] [n] l ↔ x ∈ l ∧ (gmatch p.data.toList x.data.toList = true ∨ gmatch q.data.toList x.data.toList = true) ∧ ¬ gmatch n.data.toList x.data.toList = true) := Lib.hid (fun x => mem_pick_two)
      have hbl : (refPickL [p, q] [n] l).length ≤ 40 := by have := refPickL_len [p, q] [n] l; omega
      have Hba := Lib.hid (pick_again p q n l)
      have HBz : Hid (∀ x ∈ refPickL [p, q] [n] l, x.size ≤ 200) := Lib.hid (fun x hx => Hz.out x (pick_len_le hx))
      clear hs4 h4 hb2 H3 hb3 hb4
      generalize refPickL [p, q] [n] l = both at H4 Hbr Hbm hbl Hba HBz ⊢
      go_wp2_with fail
      obtain ⟨bm, hbm⟩ : ∃ bm, bm = w4.heap.size := ⟨_, rfl⟩
      obtain ⟨w5, hw5⟩ : ∃ w5, w5 = (w4.alloc (.map #[] 0)).alloc (.cells #[.string p, .string q] 9) := ⟨_, rfl⟩
      rw [← hw5, ← hbm]
      have h45 : Below w4.heap.size w4 w5 := by rw [hw5]; exact ((Below.refl _ w4).alloc (Nat.le_refl _) _).alloc (by simp) _
      have hl1 : StrsAt w5 (some ⟨bm + 1, 0, none⟩) [p, q] := StrsAt.lit_new (w := w4) (c := #[.string p, .string q]) (t := 9) (by rw [hw5, hbm]; have := World.alloc_heap_new (w4.alloc (.map #[] 0)) (.cells #[.string p, .string q] 9); simpa using this) rfl
      have H5 : Hid (SInv w bm [(a, l), (a3, both), (some ⟨bm + 1, 0, none⟩, [p, q])] [] w5) := Lib.hid (by
        refine ⟨?_, hb04.trans (h45.mono hb04.size), by rw [hbm]; exact hb04.size, ?_⟩
        · rw [hw5, hbm]; exact (SetAt.made w4).below ((Below.refl _ _).alloc (Nat.le_refl _) _)
        · intro x hx
          simp only [List.mem_cons, List.not_mem_nil, or_false] at hx
          rcases hx with rfl | rfl | rfl
          · exact H4.out.1.below h45
          · exact H4.out.2.below h45
          · exact hl1)
      clear hl1 h45 hw5 H4 hbm hb04
      go_loopw [68] (fun i wr => ∃ (k : Nat) (S : List ByteArray), i = .int .i64 k ∧ k ≤ 2 ∧ Hid (SInv w bm [(a, l), (a3, both), (some ⟨bm + 1, 0, none⟩, [p, q])] S wr) ∧ Hid (∀ x, x ∈ S ↔ Gath p q l k x)) (fun i _ => 2 - (intOf i).toNat)
      case atStart => exact ⟨0, [], rfl, by omega, H5, Lib.hid (fun x => by simp [Gath])⟩
      case round =>
        obtain ⟨k, S, rfl, hk, hI, hS⟩ := hrel
        obtain ⟨wo, rfl⟩ : ∃ wo : World, wo = wr := ⟨_, rfl⟩
        by_cases hk2 : k < 2
        · obtain ⟨b, off, hbb, hcy⟩ := (hI.out.at (x := (some ⟨bm + 1, 0, none⟩, [p, q])) (by simp)) k (third p q q k) (two_get hk2)
          cases hbb
          rw [Nat.zero_add] at hcy
          have hzy : (third p q q k).size ≤ 200 := by unfold third; split; omega; split <;> omega
          have Hg : Hid (∀ x, Gath p q l (k + 1) x ↔ Gath p q l k x ∨ x ∈ refPickL [third p q q k] [] l) := Lib.hid (fun x => Gath.next hk2 x)
          generalize third p q q k = y at hcy hzy Hg
          go_wp2_with fail
          obtain ⟨w6, hw6⟩ : ∃ w6, w6 = wo.alloc (.cells #[.string y] 9) := ⟨_, rfl⟩
          rw [← hw6]
          have h56 : Below wo.heap.size wo w6 := by rw [hw6]; exact (Below.refl _ wo).alloc (Nat.le_refl _) _
          have hl2 : StrsAt w6 (some ⟨wo.heap.size, 0, none⟩) [y] := StrsAt.lit_new (w := wo) (c := #[.string y]) (t := 9) (by rw [hw6]; exact World.alloc_heap_new wo _) rfl
          have hI6 := hI.out.below h56
          clear hw6 h56 hcy
          refine (pick_any a (some ⟨wo.heap.size, 0, none⟩) none cap 1 0 l [y] [] _ (by omega) (by simp) (by simp) (fun x hx => by have := Hz.out x hx; omega) (fun x hx => by simp at hx; subst hx; omega) (fun x hx => by cases hx) (hI6.at (x := (a, l)) (by simp)) hl2 (StrsAt.nil _ _) (hw.below hI6.2.1)).mono ?_
          rintro e w7 h7
          obtain ⟨a5, c5, rfl, hs7, hb7⟩ := h7.same
          have H7 : Hid (SInv w bm ((a5, refPickL [y] [] l) :: [(a, l), (a3, both), (some ⟨bm + 1, 0, none⟩, [p, q])]) S w7) := Lib.hid ((hI6.below hb7).more (ls' := [(a5, refPickL [y] [] l)]) (fun x hx => by rw [List.mem_singleton.1 hx]; exact hs7))
          have hLl : (refPickL [y] [] l).length ≤ 40 := by have := refPickL_len [y] [] l; omega
          have HLz : Hid (∀ x ∈ refPickL [y] [] l, x.size ≤ 200) := Lib.hid (fun x hx => Hz.out x (pick_len_le hx))
          clear h7 hs7 hb7 hI6 hl2 hI
          generalize refPickL [y] [] l = L at Hg H7 hLl HLz ⊢
          go_wp2_with fail
          go_loopw [77] (fun i wr => ∃ (j : Nat) (S : List ByteArray), i = .int .i64 j ∧ j ≤ L.length ∧ Hid (SInv w bm ((a5, L) :: [(a, l), (a3, both), (some ⟨bm + 1, 0, none⟩, [p, q])]) S wr) ∧ Hid (∀ x, x ∈ S ↔ Gath p q l k x ∨ x ∈ L.take j)) (fun i _ => L.length - (intOf i).toNat)
          case atStart => exact ⟨0, S, rfl, Nat.zero_le _, H7, Lib.hid (fun x => by rw [hS.out]; simp)⟩
          case round =>
            obtain ⟨j, S, rfl, hj, hI, hS⟩ := hrel
            by_cases hlt : j < L.length
            · obtain ⟨b, off, hbb, hcx⟩ := (hI.out.at (x := (a5, L)) (by simp)).at hlt
              simp only at hbb
              subst hbb
              have Hx : Hid (∀ x, x ∈ L.take (j + 1) ↔ x ∈ L.take j ∨ x = L[j]) := Lib.hid (fun x => by rw [List.take_add_one, List.getElem?_eq_getElem hlt, Option.toList_some, List.mem_append, List.mem_singleton])
              have hzx := HLz.out _ (List.getElem_mem hlt)
              generalize L[j] = x at hcx Hx hzx
              obtain ⟨o, hst, hset⟩ := hI.out.1.store (P := Tryd.prog) (k := 9) (e := 4) (t := 34) Tryd.underlying9 Tryd.underlying34 x (by unfold maxLen; omega)
              have Hn := Lib.hid (hI.out.put hset)
              clear hset
              go_wp2_with fail
              go_roundw
              case rel => exact ⟨j + 1, addS x S, by go_num, by omega, Hn, Lib.hid (fun z => by rw [mem_addS, hS.out, Hx.out]; constructor <;> intro h <;> rcases h with h | h | h <;> simp [h])⟩
              case measure => simp only [intOf]; omega
            · have Ht : Hid (∀ x, x ∈ S ↔ Gath p q l (k + 1) x) := Lib.hid (fun x => by have := hS.out x; rw [List.take_of_length_le (by omega)] at this; rw [this, Hg.out])
              have Hn : Hid (SInv w bm [(a, l), (a3, both), (some ⟨bm + 1, 0, none⟩, [p, q])] S wr) := Lib.hid (SInv.less (ls' := [(a5, L)]) hI.out)
              go_wp2_with fail
              go_roundw
              case rel => exact ⟨k + 1, S, by go_num, by omega, Hn, Ht⟩
              case measure => simp only [intOf]; omega
        · go_wp2_with fail
          obtain ⟨w6, hw6⟩ : ∃ w6, w6 = wo.alloc (.cells #[.string n] 9) := ⟨_, rfl⟩
          rw [← hw6]
          have h56 : Below wo.heap.size wo w6 := by rw [hw6]; exact (Below.refl _ wo).alloc (Nat.le_refl _) _
          have hl2 : StrsAt w6 (some ⟨wo.heap.size, 0, none⟩) [n] := StrsAt.lit_new (w := wo) (c := #[.string n]) (t := 9) (by rw [hw6]; exact World.alloc_heap_new wo _) rfl
          have hI6 := hI.out.below h56
          clear hw6 h56
          refine (pick_any a (some ⟨wo.heap.size, 0, none⟩) none cap 1 0 l [n] [] _ (by omega) (by simp) (by simp) (fun x hx => by have := Hz.out x hx; omega) (fun x hx => by simp at hx; subst hx; omega) (fun x hx => by cases hx) (hI6.at (x := (a, l)) (by simp)) hl2 (StrsAt.nil _ _) (hw.below hI6.2.1)).mono ?_
          rintro e w7 h7
          obtain ⟨a5, c5, rfl, hs7, hb7⟩ := h7.same
          have H7 : Hid (SInv w bm ((a5, refPickL [n] [] l) :: [(a, l), (a3, both), (some ⟨bm + 1, 0, none⟩, [p, q])]) S w7) := Lib.hid ((hI6.below hb7).more (ls' := [(a5, refPickL [n] [] l)]) (fun x hx => by rw [List.mem_singleton.1 hx]; exact hs7))
          have hLl : (refPickL [n] [] l).length ≤ 40 := by have := refPickL_len [n] [] l; omega
          have HLz : Hid (∀ x ∈ refPickL [n] [] l, x.size ≤ 200) := Lib.hid (fun x hx => Hz.out x (pick_len_le hx))
          have HSb : Hid (∀ x, x ∈ both ↔ x ∈ S ∧ x ∉ refPickL [n] [] l) := Lib.hid (fun x => by
            rw [Hbm.out, hS.out, mem_pick_one]
            obtain rfl : k = 2 := by omega
            unfold Gath
            constructor
            · rintro ⟨h1, h2, h3⟩
              exact ⟨⟨h1, by simpa using h2⟩, fun h => h3 h.2⟩
            · rintro ⟨⟨h1, h2⟩, h3⟩
              exact ⟨h1, by simpa using h2, fun h => h3 ⟨h1, h⟩⟩)
          clear h7 hs7 hb7 hI6 hl2 hI hS
          generalize refPickL [n] [] l = L at HSb H7 hLl HLz ⊢
          go_wp2_with fail
          go_loopw [90] (fun i wr => ∃ (j : Nat) (S' : List ByteArray), i = .int .i64 j ∧ j ≤ L.length ∧ Hid (SInv w bm ((a5, L) :: [(a, l), (a3, both), (some ⟨bm + 1, 0, none⟩, [p, q])]) S' wr) ∧ Hid (∀ x, x ∈ S' ↔ x ∈ S ∧ x ∉ L.take j)) (fun i _ => L.length - (intOf i).toNat)
          case atStart => exact ⟨0, S, rfl, Nat.zero_le _, H7, Lib.hid (fun x => by simp)⟩
          case round =>
            obtain ⟨j, S', rfl, hj, hI, hS⟩ := hrel
            by_cases hlt : j < L.length
            · obtain ⟨b, off, hbb, hcx⟩ := (hI.out.at (x := (a5, L)) (by simp)).at hlt
              simp only at hbb
              subst hbb
              have Hx : Hid (∀ x, x ∈ L.take (j + 1) ↔ x ∈ L.take j ∨ x = L[j]) := Lib.hid (fun x => by rw [List.take_add_one, List.getElem?_eq_getElem hlt, Option.toList_some, List.mem_append, List.mem_singleton])
              have hzx := HLz.out _ (List.getElem_mem hlt)
              generalize L[j] = x at hcx Hx hzx
              obtain ⟨o, S2, hst, hset, hS2⟩ := hI.out.1.delete (P := Tryd.prog) (k := 9) (e := 4) (t := 34) Tryd.underlying9 Tryd.underlying34 x (by unfold maxLen; omega) 0
              have Hn := Lib.hid (hI.out.put hset)
              have HS2 := Lib.hid hS2
              clear hset hS2
              go_wp2_with fail
              go_roundw
              case rel => exact ⟨j + 1, S2, by go_num, by omega, Hn, Lib.hid (fun z => by rw [HS2.out, hS.out, Hx.out, not_or, and_assoc])⟩
              case measure => simp only [intOf]; omega
            · have HSb' : Hid (∀ x, x ∈ S' ↔ x ∈ both) := Lib.hid (fun x => by have := hS.out x; rw [List.take_of_length_le (by omega)] at this; rw [this, HSb.out])
              have HI : Hid (SInv w bm [(a, l), (a3, both), (some ⟨bm + 1, 0, none⟩, [p, q])] S' wr) := Lib.hid (SInv.less (ls' := [(a5, L)]) hI.out)
              clear hS hI HSb Hbm HLz
              obtain ⟨w8, rfl⟩ : ∃ w8 : World, w8 = wr := ⟨_, rfl⟩
              have Hbz : Hid (∀ x ∈ both, x.size ≤ 200) := HBz
              go_wp2_with fail
              go_loop [99] (fun i => ∃ j : Nat, i = .int .i64 j ∧ j ≤ both.length) (fun i => both.length - (intOf i).toNat)
              case atStart => exact ⟨0, rfl, Nat.zero_le _⟩
              case round =>
                obtain ⟨j, rfl, hj⟩ := hrel
                by_cases hlt : j < both.length
                · obtain ⟨b, off, hbb, hcx⟩ := (HI.out.at (x := (a3, both)) (by simp)).at hlt
                  simp only at hbb
                  subst hbb
                  obtain ⟨hno, hlook⟩ | ⟨-, hlook⟩ := HI.out.1.look (P := Tryd.prog) (k := 9) (e := 4) (t := 34) Tryd.underlying9 Tryd.underlying34 (by kernel_rfl) both[j] (by unfold maxLen; have := Hbz.out _ (List.getElem_mem hlt); omega)
                  · exact absurd ((HSb'.out _).2 (List.getElem_mem hlt)) hno
                  by_cases h0 : 0 < j
                  · have hcp := StrsAt.cellAt (HI.out.at (x := (some ⟨b, off, none⟩, both)) (by simp)) (k := j - 1) (by show j - 1 < both.length; omega)
                    have hlss : Op.bytesLess (both[j - 1]'(by omega)).toList both[j].toList = true := less_iff.2 (List.pairwise_iff_getElem.1 Hbr.out (j - 1) j (by omega) hlt (by omega))
                    have h0' : decide ((0 : Int) < (j : Int)) = true := by simp; omega
                    go_wp2_with fail
                    go_round
                    case rel => exact ⟨j + 1, by go_num, by omega⟩
                    case measure => simp only [intOf]; omega
                  · obtain rfl : j = 0 := by omega
                    rw [Nat.add_zero] at hcx
                    go_wp2_with fail
                    go_round
                    case rel => exact ⟨1, by go_num, by omega⟩
                    case measure => simp only [intOf]; omega
                · have hlen : ∀ ty, (Builtin.len_ #[34] ty #[.map (some bm)]).run Tryd.prog w8 = .ok (.int .i64 both.length) w8 := fun ty => by
                    rw [← len_eq_of_mem HI.out.1.2.1 Hbr.out.nodup HSb'.out]
                    exact HI.out.1.len (P := Tryd.prog) (k := 9) (e := 4) Tryd.underlying34 ty
                  go_wp2_with fail
                  clear hlen
                  obtain ⟨w9, hw9⟩ : ∃ w9, w9 = w8.alloc (.cells #[.string ⟨#[42, 42]⟩] 9) := ⟨_, rfl⟩
                  rw [← hw9]
                  have h89 : Below w8.heap.size w8 w9 := by rw [hw9]; exact (Below.refl _ w8).alloc (Nat.le_refl _) _
                  have hl9 : StrsAt w9 (some ⟨w8.heap.size, 0, none⟩) [⟨#[42, 42]⟩] := StrsAt.lit_new (w := w8) (c := #[.string ⟨#[42, 42]⟩]) (t := 9) (by rw [hw9]; exact World.alloc_heap_new w8 _) rfl
                  have hI9 := HI.out.below h89
                  clear hw9 h89
                  refine (pick_any a3 (some ⟨w8.heap.size, 0, none⟩) none c3 1 0 both [⟨#[42, 42]⟩] [] _ (by omega) (by simp) (by simp) (fun x hx => by have := Hbz.out x hx; omega) (fun x hx => by simp at hx; subst hx; decide) (fun x hx => by cases hx) (hI9.at (x := (a3, both)) (by simp)) hl9 (StrsAt.nil _ _) (hw.below hI9.2.1)).mono ?_
                  rintro e w10 h10
                  obtain ⟨a6, c6, rfl, hs10, hb10⟩ := h10.same
                  have hI10 := hI9.below hb10
                  clear h10 hb10 hI9 hl9
                  rw [Hba.out] at hs10 ⊢
                  have H10 := Lib.hid (And.intro hs10 hI10)
                  clear hs10 hI10
                  go_wp2_with fail
                  refine (same_any a6 a3 c6 c3 both _ (by omega) H10.out.1 (H10.out.2.at (x := (a3, both)) (by simp))).mono ?_
                  rintro e w11 ⟨rfl, hb11⟩
                  have hfin := (H10.out.2.below hb11).2.1
                  go_wp2_with fail
                  go_ret
                  exact ⟨rfl, hfin⟩
end Go.Proofs.YtabobdmgjmgifaaDoor
