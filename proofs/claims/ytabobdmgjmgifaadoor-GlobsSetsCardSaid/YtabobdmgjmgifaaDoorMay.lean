/-
  The walk of globs.May: is a text a pattern?
-/
import Derived.Test.YtabobdmgjmgifaaDoorSplit
namespace Go.Proofs.YtabobdmgjmgifaaDoor
open Go.RowKit

/-- Is a text a pattern? -/
def gmay (l : List UInt8) : Bool := decide ((cutAt 47 l).length ≤ 16) && (cutAt 47 l).all gpart

set_option maxRecDepth 100000 in
set_option maxHeartbeats 400000 in
theorem may1_any (s : ByteArray) (w : World) (hs : s.size ≤ 9223372036854775807) :
    Calls Tryd.prog 26 #[.string s] w (PBelow (!gpart s.data.toList) w) := by
  go_enter Tryd.func26, Tryd.ntmps26
  go_wp2_with fail
  refine (gpart_any s _ hs).mono ?_
  rintro e w' ⟨rfl, hb⟩
  go_wp2_with fail
  go_ret
  exact ⟨rfl, hb⟩

def atq (f : ByteArray → Bool) (l : List ByteArray) (k : Nat) : Bool := match l[k]? with | some x => f x | none => false
theorem atq_some {f : ByteArray → Bool} {l : List ByteArray} {k : Nat} {x : ByteArray} (h : l[k]? = some x) : atq f l k = f x := by unfold atq; rw [h]
theorem atq_any_true {f : ByteArray → Bool} {l : List ByteArray} {i : Nat} (hi : i < l.length) (h : atq f l i = true) : l.any f = true := by
  rw [atq_some (List.getElem?_eq_getElem hi)] at h
  exact List.any_eq_true.2 ⟨_, List.getElem_mem hi, h⟩
theorem atq_any_false {f : ByteArray → Bool} {l : List ByteArray} (h : ∀ j, j < l.length → atq f l j = false) : l.any f = false := by
  rw [List.any_eq_false]
  intro x hx
  obtain ⟨i, hi, rfl⟩ := List.getElem_of_mem hx
  have := h i hi
  rw [atq_some (List.getElem?_eq_getElem hi)] at this
  simp [this]

/-- slices.ContainsFunc at strings, where the function only makes memory. -/
theorem contains_any (g : FuncId) (lb : Array Value) (eg : ∀ args w, (callFunc g args).run Tryd.prog w = .ok (.enter g args) w) (f : ByteArray → Bool) (a : Option Addr) (cap : Nat) (l : List ByteArray) (w : World)
    (hl : l.length ≤ 9223372036854775807) (hat : StrsAt w a l)
    (hg : ∀ x ∈ l, ∀ w1, Below w.heap.size w w1 → Calls Tryd.prog g (#[.string x] ++ lb) w1 (PBelow (f x) w1)) :
    Calls Tryd.prog 25 #[.slice a l.length cap, .func (.func g) #[] lb] w (PBelow (l.any f) w) := by
  refine (containsFunc_strs g lb eg a cap l (atq f l) (fun _ w' => Below w.heap.size w w') w hl (Below.refl _ _) (fun k w' h => hat.below h) ?_).mono ?_
  · intro k x w1 hx hb _
    refine (hg x (List.mem_of_getElem? hx) w1 hb).mono ?_
    rintro e w2 ⟨rfl, hb2⟩
    rw [atq_some hx]
    exact ⟨rfl, hb.trans (hb2.mono hb.size)⟩
  · rintro e w2 (⟨i, hi, hqi, _, rfl, hb⟩ | ⟨hq, rfl, hb⟩)
    · exact ⟨ret_bool (atq_any_true hi hqi).symm, hb⟩
    · exact ⟨ret_bool (atq_any_false hq).symm, hb⟩

set_option maxRecDepth 100000 in
set_option maxHeartbeats 400000 in
theorem gmay_any (s : ByteArray) (w : World) (hs : s.size < 4294967281) (hw : Std w) :
    Calls Tryd.prog 9 #[.string s] w (PBelow (gmay s.data.toList) w) := by
  go_enter Tryd.func9, Tryd.ntmps9
  go_wp2_with fail
  refine (split_any 47 s _ hs hw).mono ?_
  rintro e w1 ⟨l, rfl, hcut, hat, hb, hz, hsz⟩
  have hll : (cutAt 47 s.data.toList).length = l.length := by rw [← hcut, List.length_map]
  have Hll := Lib.hid hll
  have Hcut := Lib.hid hcut
  have Hz := Lib.hid hz
  clear hll hcut hz
  have hlb : l.length ≤ 9223372036854775807 := by
    have h1 := cutAt_length 47 s.data.toList
    have h2 := List.count_le_length (a := (47 : UInt8)) (l := s.data.toList)
    have h3 := len_data s
    have h4 := Hll.out
    omega
  by_cases hn : (l.length : Int) ≤ 16
  · go_wp2_with fail
    refine (contains_any 26 #[] (enters_of Tryd.func26 (by kernel_rfl) rfl) (fun x => !gpart x.data.toList) _ _ l _ hlb hat
      (fun x hx w2 _ => may1_any x w2 (by have := hsz x hx; omega))).mono ?_
    rintro e w2 ⟨rfl, hb2⟩
    go_wp2_with fail
    go_ret
    refine ⟨ret_bool ?_, hb.trans (hb2.mono hb.size)⟩
    unfold gmay
    rw [decide_eq_true (p := (cutAt 47 s.data.toList).length ≤ 16) (by have := Hll.out; omega), ← Hcut.out]
    rw [Bool.true_and, List.all_map, List.not_any_eq_all_not]
    congr 1
    funext x
    exact Bool.not_not _
  · go_wp2_with fail
    go_ret
    refine ⟨ret_bool ?_, hb⟩
    unfold gmay
    rw [decide_eq_false (p := (cutAt 47 s.data.toList).length ≤ 16) (by have := Hll.out; omega)]; rfl

end Go.Proofs.YtabobdmgjmgifaaDoor
