/-
  The walk of the statement GlobsPick.
-/
import Derived.Test.YtabobdmgjmgifaaDoorLawMatch
import Derived.Test.YtabobdmgjmgifaaDoorPick
import Derived.Test.YtabobdmgjmgifaaDoorSame
namespace Go.Proofs.YtabobdmgjmgifaaDoor
open Go Go.RowKit

/-- The k-th of three. -/
def third {α : Type} (x y z : α) (k : Nat) : α := if k = 0 then x else if k = 1 then y else z
theorem third_all {α : Type} {x y z : α} {p : α → Prop} (h : ∀ k, k < 3 → p (third x y z k)) : p x ∧ p y ∧ p z := ⟨h 0 (by omega), h 1 (by omega), h 2 (by omega)⟩

theorem POwn.same {l : List ByteArray} {w w' : World} {e : Ending} (h : POwn l w e w') : ∃ a cap, e = .returned (.slice a l.length cap) ∧ StrsAt w' a l ∧ Below w.heap.size w w' := by
  obtain ⟨v, rfl, ho, hb⟩ := h
  obtain ⟨a, cap, rfl, hs, -⟩ := ho.strsAt
  exact ⟨a, cap, rfl, hs, hb⟩
theorem refPickL_len (yes no l : List ByteArray) : (refPickL yes no l).length ≤ l.length := by
  have : ∀ (l o : List ByteArray), (l.foldl (fun o x => if picks yes no x then insL x false o else o) o).length ≤ o.length + l.length := by
    intro l
    induction l with
    | nil => intro o; simp
    | cons x t ih =>
      intro o
      rw [List.foldl_cons, List.length_cons]
      have h1 := ih (if picks yes no x then insL x false o else o)
      have h2 : (if picks yes no x then insL x false o else o).length ≤ o.length + 1 := by
        split
        · exact insL_len x false o
        · omega
      omega
  have h := this l []
  simpa [refPickL] using h

set_option maxRecDepth 100000 in
set_option maxHeartbeats 1000000 in
theorem lawPick_any (a ay an : Option Addr) (cap cy cn : Nat) (l yes no : List ByteArray) (w : World) (hml : l.length ≤ maxLen) (hmy : yes.length ≤ maxLen) (hmn : no.length ≤ maxLen)
    (hat : StrsAt w a l) (hay : StrsAt w ay yes) (han : StrsAt w an no) (hw : Std w) :
    Calls Tryd.prog 6 #[.slice a l.length cap, .slice ay yes.length cy, .slice an no.length cn] w (PBelow true w) := by
  have Hat := Lib.hid (And.intro hat (And.intro hay han))
  clear hat hay han
  go_enter Tryd.func6, Tryd.ntmps6
  go_wp2_with fail
  refine (alive_any _ hw).mono ?_
  rintro e w1 ⟨rfl, hb1⟩
  by_cases hp : (40 : Int) < l.length
  · go_wp2_with fail
    go_ret
    exact ⟨rfl, hb1⟩
  by_cases hs : (10 : Int) < yes.length
  · go_wp2_with fail
    go_ret
    exact ⟨rfl, hb1⟩
  by_cases hn : (10 : Int) < no.length
  · go_wp2_with fail
    go_ret
    exact ⟨rfl, hb1⟩
  go_wp2_with fail
  obtain ⟨w2, hw2⟩ : ∃ w2, w2 = w1.alloc (.cells #[.slice a l.length cap, .slice ay yes.length cy, .slice an no.length cn] 28) := ⟨_, rfl⟩
  rw [← hw2]
  have hb2 : Below w.heap.size w w2 := by rw [hw2]; exact hb1.alloc hb1.size _
  have hc2 : ∀ k, k < 3 → w2.cell? ⟨w1.heap.size, k, none⟩ = some (.slice (third a ay an k) (third l yes no k).length (third cap cy cn k)) := by
    intro k hk
    obtain rfl | rfl | rfl : k = 0 ∨ k = 1 ∨ k = 2 := by omega
    all_goals (rw [hw2]; unfold World.cell?; rw [World.alloc_heap_new]; rfl)
  have hs2 : ∀ k, k < 3 → StrsAt w2 (third a ay an k) (third l yes no k) := by
    intro k hk
    obtain rfl | rfl | rfl : k = 0 ∨ k = 1 ∨ k = 2 := by omega
    · exact Hat.out.1.below hb2
    · exact Hat.out.2.1.below hb2
    · exact Hat.out.2.2.below hb2
  have Hc2 := Lib.hid hc2
  have Hs2 := Lib.hid hs2
  clear hw2 hc2 hs2
  go_loop [31] (fun i => ∃ k : Nat, i = .int .i64 k ∧ k ≤ 3 ∧ Hid (∀ j, j < k → ∀ x ∈ third l yes no j, x.size ≤ 200)) (fun i => 3 - (intOf i).toNat)
  case atStart => exact ⟨0, rfl, by omega, Lib.hid (fun j hj => by omega)⟩
  case round =>
    obtain ⟨k, rfl, hk, hall⟩ := hrel
    by_cases hk3 : k < 3
    · have hc := Hc2.out k hk3
      have hs := Hs2.out k hk3
      have Hn : Hid ((∀ x ∈ third l yes no k, x.size ≤ 200) → ∀ j, j < k + 1 → ∀ x ∈ third l yes no j, x.size ≤ 200) := Lib.hid (fun h j hj => by
        by_cases hjk : j < k
        · exact hall.out j hjk
        · obtain rfl : j = k := by omega
          exact h)
      have hL : (third l yes no k).length ≤ 40 := by unfold third; split; omega; split <;> omega
      generalize third l yes no k = L at hc hs Hn hL
      generalize third a ay an k = A at hc hs
      generalize third cap cy cn k = C at hc
      have Hs := Lib.hid hs
      clear hs
      go_wp2_with fail
      go_loop [37] (fun i => ∃ j : Nat, i = .int .i64 j ∧ j ≤ L.length ∧ Hid (∀ x ∈ L.take j, x.size ≤ 200)) (fun i => L.length - (intOf i).toNat)
      case atStart => exact ⟨0, rfl, Nat.zero_le _, Lib.hid (fun x hx => by simp at hx)⟩
      case round =>
        obtain ⟨j, rfl, hj, hsm⟩ := hrel
        by_cases hlt : j < L.length
        · obtain ⟨b, off, hbb, hcx⟩ := Hs.out.at hlt
          subst hbb
          have Hx : Hid (L[j].size ≤ 200 → ∀ x ∈ L.take (j + 1), x.size ≤ 200) := Lib.hid (fun h x hx => by
            rw [List.take_add_one, List.getElem?_eq_getElem hlt, Option.toList_some, List.mem_append, List.mem_singleton] at hx
            rcases hx with hx | rfl
            · exact hsm.out x hx
            · exact h)
          generalize L[j] = x at hcx Hx
          by_cases hx : (200 : Int) < x.size
          · go_wp2_with fail
            go_ret
            exact ⟨rfl, hb2⟩
          · go_wp2_with fail
            go_round
            case rel => exact ⟨j + 1, by go_num, by omega, Lib.hid (Hx.out (by omega))⟩
            case measure => simp only [intOf]; omega
        · have Hl : Hid (∀ x ∈ L, x.size ≤ 200) := Lib.hid (by have := hsm.out; rwa [List.take_of_length_le (by omega)] at this)
          go_wp2_with fail
          go_round
          case rel => exact ⟨k + 1, by go_num, by omega, Lib.hid (Hn.out Hl.out)⟩
          case measure => simp only [intOf]; omega
    · obtain ⟨hz, hzy, hzn⟩ := third_all (p := fun L : List ByteArray => ∀ x ∈ L, x.size ≤ 200) (x := l) (y := yes) (z := no) (fun j hj => by
        have : third l yes no j = third l yes no j := rfl
        exact hall.out j (by omega))
      have Hz := Lib.hid (And.intro hz (And.intro hzy hzn))
      clear hz hzy hzn
      go_wp2_with fail
      refine (pick_any a ay an cap cy cn l yes no _ (by omega) (by omega) (by omega) (fun x hx => by have := Hz.out.1 x hx; omega) (fun x hx => by have := Hz.out.2.1 x hx; omega) (fun x hx => by have := Hz.out.2.2 x hx; omega) (Hs2.out 0 (by omega)) (Hs2.out 1 (by omega)) (Hs2.out 2 (by omega)) (hw.below hb2)).mono ?_
      rintro e w3 h3
      obtain ⟨a3, c3, rfl, hs3, hb3⟩ := h3.same
      have hb23 : Below w.heap.size w w3 := hb2.trans (hb3.mono hb2.size)
      have Hs3 := Lib.hid hs3
      have Hst := Lib.hid (fun k hk => (Hs2.out k hk).below hb3)
      clear hs3 h3
      go_wp2_with fail
      refine (refPick_any a ay an cap cy cn l yes no _ (by omega) (by omega) (by omega) (fun x hx => by have := Hz.out.1 x hx; omega) (fun x hx => by have := Hz.out.2.1 x hx; omega) (fun x hx => by have := Hz.out.2.2 x hx; omega) (Hst.out 0 (by omega)) (Hst.out 1 (by omega)) (Hst.out 2 (by omega))).mono ?_
      rintro e w4 h4
      obtain ⟨a4, c4, rfl, hs4, hb4⟩ := h4.same
      have hb24 : Below w.heap.size w w4 := hb23.trans (hb4.mono hb23.size)
      have hs34 := Hs3.out.below hb4
      have Hs4 := Lib.hid (And.intro hs34 hs4)
      clear hs4 h4 hs34
      have hlen : (refPickL yes no l).length ≤ 4294967281 := by have := refPickL_len yes no l; omega
      go_wp2_with fail
      refine (same_any a3 a4 c3 c4 (refPickL yes no l) _ hlen Hs4.out.1 Hs4.out.2).mono ?_
      rintro e w5 ⟨rfl, hb5⟩
      go_wp2_with fail
      go_ret
      exact ⟨rfl, hb24.trans (hb5.mono hb24.size)⟩
end Go.Proofs.YtabobdmgjmgifaaDoor
