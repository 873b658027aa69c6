/-
  The walks of the reference's May of paths, and of patterns.
-/
import Derived.Test.YtabobdmgjmgifaaDoorRefParts
import Derived.Test.YtabobdmgjmgifaaDoorRefPart
import Derived.Test.YtabobdmgjmgifaaDoorMay
namespace Go.Proofs.YtabobdmgjmgifaaDoor
open Go Go.RowKit

theorem all_take_succ {l : List ByteArray} {f : List UInt8 → Bool} {k : Nat} (h : k < l.length) : ((l.take (k + 1)).all fun x => f x.data.toList) = (((l.take k).all fun x => f x.data.toList) && f l[k].data.toList) := by
  rw [List.take_add_one, List.getElem?_eq_getElem h, List.all_append]; simp only [Option.toList_some, List.all_cons, List.all_nil, Bool.and_true]

set_option maxRecDepth 100000 in
set_option maxHeartbeats 1000000 in
theorem refMay_any (s : ByteArray) (w : World) (hs : s.size ≤ 4294967296) :
    Calls Tryd.prog 15 #[.string s] w (PBelow (pathOk s.data.toList) w) := by
  go_enter Tryd.func15, Tryd.ntmps15
  go_wp2_with fail
  refine (refParts_any s w hs).mono ?_
  rintro e w1 ⟨l, v, rfl, hcut, hown, hb⟩
  obtain ⟨a, cap, rfl, hat, -⟩ := hown.strsAt
  have Hcut := Lib.hid hcut
  have hlen : l.length ≤ 4294967297 := by
    have h1 := congrArg List.length hcut
    rw [List.length_map, cutAt_length] at h1
    have h2 := List.count_le_length (a := (47 : UInt8)) (l := s.data.toList)
    rw [len_data] at h2
    omega
  have Hsz : Hid (∀ x ∈ l, x.size ≤ s.size) := Lib.hid (fun x hx => by
    have := cutAt_len_le 47 s.data.toList x.data.toList (by rw [← hcut]; exact List.mem_map_of_mem hx)
    rw [len_data, len_data] at this; exact this)
  clear hcut hown
  go_wp2_with fail
  go_loop [4] (fun i => ∃ k : Nat, i = .int .i64 k ∧ k ≤ l.length ∧ Hid (((l.take k).all fun x => partOk x.data.toList) = true)) (fun i => l.length - (intOf i).toNat)
  case atStart => exact ⟨0, rfl, Nat.zero_le _, rfl⟩
  case round =>
    obtain ⟨k, rfl, hk, hg⟩ := hrel
    by_cases hlt : k < l.length
    · obtain ⟨b, off, rfl, hc⟩ := hat.at hlt
      go_wp2_with fail
      refine (refPart_any _ _ (by have := Hsz.out _ (List.getElem_mem hlt); omega)).mono ?_
      rintro e w2 ⟨rfl, hw2⟩
      obtain rfl : w1 = w2 := hw2.symm
      cases hp : partOk l[k].data.toList
      · have Hf : Hid (pathOk s.data.toList = false) := Lib.hid (by
          unfold pathOk
          rw [← Hcut.out, Bool.and_eq_false_iff]
          right
          rw [List.all_eq_false]
          exact ⟨_, List.mem_map_of_mem (List.getElem_mem hlt), by simp [hp]⟩)
        clear hp
        go_wp2_with fail
        go_ret
        exact ⟨ret_bool Hf.out.symm, hb⟩
      · have Hg : Hid (((l.take (k + 1)).all fun x => partOk x.data.toList) = true) := Lib.hid (by rw [all_take_succ hlt, hg.out, hp]; rfl)
        clear hp
        go_wp2_with fail
        go_round
        case rel => exact ⟨k + 1, by go_num, by omega, Hg⟩
        case measure => simp only [intOf]; omega
    · have Hf : Hid (pathOk s.data.toList = decide ((l.length : Int) ≤ 16)) := Lib.hid (by
        unfold pathOk
        have h1 := hg.out
        rw [List.take_of_length_le (by omega)] at h1
        rw [← Hcut.out, List.length_map, List.all_map, show (partOk ∘ fun x : ByteArray => x.data.toList) = fun x => partOk x.data.toList from rfl, h1, Bool.and_true, decide_eq_decide]
        omega)
      go_wp2_with fail
      go_ret
      exact ⟨ret_bool Hf.out.symm, hb⟩
end Go.Proofs.YtabobdmgjmgifaaDoor
