/-
  The walks of globs.anyOf and of the reference's some and Same: does one of some patterns match a path? Are two rows of texts the same?
-/
import Derived.Test.YtabobdmgjmgifaaDoorRefMatch
import Derived.Laws.EntriesVeiled
namespace Go.Proofs.YtabobdmgjmgifaaDoor
open Go Go.RowKit

def ganyOf (l : List ByteArray) (s : ByteArray) : Bool := l.any fun p => gmatch p.data.toList s.data.toList

set_option maxRecDepth 100000 in
set_option maxHeartbeats 400000 in
theorem anyOf1_any (p s : ByteArray) (q : Nat) (w : World) (hp : p.size < 4294967281) (hs : s.size < 4294967281) (hw : Std w) (hc : w.cell? ⟨q, 0, none⟩ = some (.string s)) :
    Calls Tryd.prog 53 (#[.string p] ++ #[.pointer (some ⟨q, 0, none⟩)]) w (PBelow (gmatch p.data.toList s.data.toList) w) := by
  go_enter Tryd.func53, Tryd.ntmps53
  go_wp2_with fail
  refine (match_any p s w hp hs hw).mono ?_
  rintro e w1 ⟨rfl, hb⟩
  go_wp2_with fail
  go_ret
  exact ⟨rfl, hb⟩

set_option maxRecDepth 100000 in
set_option maxHeartbeats 400000 in
theorem anyOf_any (a : Option Addr) (cap : Nat) (l : List ByteArray) (s : ByteArray) (w : World) (hl : l.length ≤ 4294967281) (hz : ∀ x ∈ l, x.size < 4294967281) (hs : s.size < 4294967281) (hw : Std w) (hat : StrsAt w a l) :
    Calls Tryd.prog 40 #[.slice a l.length cap, .string s] w (PBelow (ganyOf l s) w) := by
  have Hz := Lib.hid hz
  have Hat := Lib.hid hat
  clear hz hat
  go_enter Tryd.func40, Tryd.ntmps40
  go_wp2_with fail
  have hb0 : Below w.heap.size w (w.alloc (.cells #[.string s] 9)) := (Below.refl _ w).alloc (Nat.le_refl _) _
  have hc0 : (w.alloc (.cells #[.string s] 9)).cell? ⟨w.heap.size, 0, none⟩ = some (.string s) := by go_simp
  refine (contains_any 53 #[.pointer (some ⟨w.heap.size, 0, none⟩)] (enters_of Tryd.func53 (by kernel_rfl) rfl) (fun p => gmatch p.data.toList s.data.toList) _ _ l _ (by omega) (Hat.out.below hb0)
    (fun x hx w2 hb2 => anyOf1_any x s _ w2 (Hz.out x hx) hs ((hw.below hb0).below hb2) (by rw [hb2.cell (p := ⟨w.heap.size, 0, none⟩) (by simp)]; exact hc0))).mono ?_
  rintro e w2 ⟨rfl, hb2⟩
  go_wp2_with fail
  go_ret
  exact ⟨rfl, hb0.trans (hb2.mono hb0.size)⟩

theorem any_take_succ {l : List ByteArray} {f : ByteArray → Bool} {k : Nat} (h : k < l.length) : (l.take (k + 1)).any f = ((l.take k).any f || f l[k]) := by
  rw [List.take_add_one, List.getElem?_eq_getElem h, List.any_append]; simp only [Option.toList_some, List.any_cons, List.any_nil, Bool.or_false]

set_option maxRecDepth 100000 in
set_option maxHeartbeats 1000000 in
theorem refSome_any (a : Option Addr) (cap : Nat) (l : List ByteArray) (s : ByteArray) (w : World) (hl : l.length ≤ 4294967281) (hz : ∀ x ∈ l, x.size ≤ 4294967200) (hs : s.size ≤ 4294967200) (hat : StrsAt w a l) :
    Calls Tryd.prog 43 #[.slice a l.length cap, .string s] w (PBelow (ganyOf l s) w) := by
  have Hz := Lib.hid hz
  clear hz
  go_enter Tryd.func43, Tryd.ntmps43
  go_wp2_with fail
  go_loopw [9] (fun i wr => ∃ k : Nat, i = .int .i64 k ∧ k ≤ l.length ∧ Below w.heap.size w wr ∧ Hid (ganyOf (l.take k) s = false)) (fun i _ => l.length - (intOf i).toNat)
  case atStart => exact ⟨0, rfl, Nat.zero_le _, Below.refl _ _, Lib.hid rfl⟩
  case round =>
    obtain ⟨k, rfl, hk, hb, hg⟩ := hrel
    by_cases hlt : k < l.length
    · obtain ⟨b, off, hbb, hc⟩ := (hat.below hb).at hlt
      subst hbb
      go_wp2_with fail
      refine (refMatch_any l[k] s _ (by have := Hz.out _ (List.getElem_mem hlt); omega) (by omega)).mono ?_
      rintro e w1 ⟨rfl, hb1⟩
      have hb' : Below w.heap.size w w1 := hb.trans (hb1.mono hb.size)
      cases hm : gmatch l[k].data.toList s.data.toList
      · have Hg : Hid (ganyOf (l.take (k + 1)) s = false) := Lib.hid (by unfold ganyOf; rw [any_take_succ hlt, hm, Bool.or_false]; exact hg.out)
        clear hm
        go_wp2_with fail
        go_roundw
        case rel => exact ⟨k + 1, by go_num, by omega, hb', Hg⟩
        case measure => simp only [intOf]; omega
      · have Hf : Hid (ganyOf l s = true) := Lib.hid (List.any_eq_true.2 ⟨_, List.getElem_mem hlt, hm⟩)
        clear hm
        go_wp2_with fail
        go_ret
        exact ⟨ret_bool Hf.out.symm, hb'⟩
    · have Hf : Hid (ganyOf l s = false) := Lib.hid (by have := hg.out; rwa [List.take_of_length_le (by omega)] at this)
      go_wp2_with fail
      go_ret
      exact ⟨ret_bool Hf.out.symm, hb⟩

end Go.Proofs.YtabobdmgjmgifaaDoor
