/-
  The walk of the statement GlobsBelow.
-/
import Derived.Test.YtabobdmgjmgifaaDoorLawMatch
import Derived.Test.YtabobdmgjmgifaaDoorDir
namespace Go.Proofs.YtabobdmgjmgifaaDoor
open Go Go.RowKit

set_option maxRecDepth 100000 in
set_option maxHeartbeats 2000000 in
theorem lawBelow_any (d s : ByteArray) (w : World) (hw : Std w) : Calls Tryd.prog 4 #[.string d, .string s] w (PBelow true w) := by
  go_enter Tryd.func4, Tryd.ntmps4
  go_wp2_with fail
  refine (alive_any _ hw).mono ?_
  rintro e w1 ⟨rfl, hb1⟩
  by_cases hd : (500 : Int) < d.size
  · go_wp2_with fail
    go_ret
    exact ⟨rfl, hb1⟩
  by_cases hs : (500 : Int) < s.size
  · go_wp2_with fail
    go_ret
    exact ⟨rfl, hb1⟩
  have hw1 := hw.below hb1
  go_wp2_with fail
  refine (refMay_any d _ (by omega)).mono ?_
  rintro e w2 ⟨rfl, hb2⟩
  have hb12 : Below w.heap.size w w2 := hb1.trans (hb2.mono hb1.size)
  cases hpo : pathOk d.data.toList
  · clear hpo
    go_wp2_with fail
    go_ret
    exact ⟨rfl, hb12⟩
  have Hpo := Lib.hid hpo
  clear hpo
  go_wp2_with fail
  refine (Tryd.strings_Count_one d 47 _).mono ?_
  rintro e w2' ⟨he, rfl⟩
  obtain ⟨n, hn⟩ : ∃ n : Nat, Lib.countByte d.data.toList 47 = n := ⟨_, rfl⟩
  rw [hn] at he
  subst he
  by_cases hn14 : (14 : Int) < (n : Int)
  · clear hn
    go_wp2_with fail
    go_ret
    exact ⟨rfl, hb12⟩
  have hle : d.data.toList.count 47 ≤ 14 := by unfold Lib.countByte at hn; omega
  have Hb := Lib.hid (gmatch_below Hpo.out hle s.data.toList)
  have Hi := Lib.hid (gmatch_in Hpo.out hle s.data.toList)
  have Hz2 : Hid ((d ++ ⟨#[47, 42, 42]⟩).size < 4294967281) := Lib.hid (by rw [ByteArray.size_append]; show d.size + 3 < _; omega)
  have Hz1 : Hid ((d ++ ⟨#[47, 42]⟩).size < 4294967281) := Lib.hid (by rw [ByteArray.size_append]; show d.size + 2 < _; omega)
  have Hd2 : Hid ((d ++ ⟨#[47, 42, 42]⟩).data.toList = d.data.toList ++ 47 :: [42, 42]) := Lib.hid (by simp)
  have Hd1 : Hid ((d ++ ⟨#[47, 42]⟩).data.toList = d.data.toList ++ 47 :: [42]) := Lib.hid (by simp)
  clear hn hle
  go_wp2_with fail
  refine (match_any _ s _ Hz2.out (by omega) (hw.below hb12)).mono ?_
  rintro e w3 ⟨rfl, hb3⟩
  have hb13 : Below w.heap.size w w3 := hb12.trans (hb3.mono hb12.size)
  rw [Hd2.out, Hb.out]
  obtain ⟨u, hu⟩ : ∃ u, under s.data.toList d.data.toList = u := ⟨_, rfl⟩
  rw [hu] at Hi ⊢
  have Hu := Lib.hid hu
  clear hu
  go_wp2_with fail
  refine (refUnder_any d Hpo.out _ s _ (Nat.le_refl _) (by omega)).mono ?_
  rintro e w4 ⟨rfl, hb4⟩
  have hb14 : Below w.heap.size w w4 := hb13.trans (hb4.mono hb13.size)
  rw [Hu.out]
  go_wp2_with fail
  refine (match_any _ s _ Hz1.out (by omega) (hw.below hb14)).mono ?_
  rintro e w5 ⟨rfl, hb5⟩
  have hb15 : Below w.heap.size w w5 := hb14.trans (hb5.mono hb14.size)
  rw [Hd1.out, Hi.out]
  obtain ⟨q, hq⟩ : ∃ q, (dirOf s.data.toList == d.data.toList) = q := ⟨_, rfl⟩
  rw [hq]
  have Hq := Lib.hid hq
  clear hq
  go_wp2_with fail
  refine (refUnder_any d Hpo.out _ s _ (Nat.le_refl _) (by omega)).mono ?_
  rintro e w6 ⟨rfl, hb6⟩
  have hb16 : Below w.heap.size w w6 := hb15.trans (hb6.mono hb15.size)
  rw [Hu.out]
  cases hu : u
  · go_wp2_with fail
    go_ret
    exact ⟨rfl, hb16⟩
  go_wp2_with fail
  refine (refDir_any s _ (by omega)).mono ?_
  rintro e w7 ⟨r, rfl, hr, hb7⟩
  have hb17 : Below w.heap.size w w7 := hb16.trans (hb7.mono hb16.size)
  have hrd : (r.toList == d.toList) = q := by rw [Lib.toList_data, Lib.toList_data, hr]; exact Hq.out
  clear hr
  go_wp2_with fail
  go_ret
  exact ⟨rfl, hb17⟩

end Go.Proofs.YtabobdmgjmgifaaDoor
