/-
  The walks of the statement GlobsMatch, and of the examples that each statement of its chapter begins with.
-/
import Derived.Test.YtabobdmgjmgifaaDoorRefMatch
import Derived.Test.YtabobdmgjmgifaaDoorFixed
namespace Go.Proofs.YtabobdmgjmgifaaDoor
open Go Go.RowKit

set_option maxRecDepth 100000 in
set_option maxHeartbeats 400000 in
theorem alive_any (w : World) (hw : Std w) : Calls Tryd.prog 8 #[] w (PBelow true w) := by
  have e1 : gmatch (⟨#[97, 47, 42, 42, 47, 99]⟩ : ByteArray).data.toList (⟨#[97, 47, 99]⟩ : ByteArray).data.toList = true := by decide +kernel
  have e2 : gmatch (⟨#[97, 47, 42, 42, 47, 99]⟩ : ByteArray).data.toList (⟨#[97, 47, 98, 47, 98, 47, 99]⟩ : ByteArray).data.toList = true := by decide +kernel
  have e3 : gmatch (⟨#[97, 47, 42, 42, 47, 99]⟩ : ByteArray).data.toList (⟨#[97]⟩ : ByteArray).data.toList = false := by decide +kernel
  have e4 : gfixed (⟨#[97, 47, 98, 42, 46, 99]⟩ : ByteArray).data.toList = [97, 47, 98] := by decide +kernel
  have E1 := Lib.hid e1
  have E2 := Lib.hid e2
  have E3 := Lib.hid e3
  have E4 := Lib.hid e4
  clear e1 e2 e3 e4
  go_enter Tryd.func8, Tryd.ntmps8
  go_wp2_with fail
  refine (match_any _ _ _ (by decide) (by decide) hw).mono ?_
  rintro e w1 ⟨rfl, hb1⟩
  rw [E1.out]
  go_wp2_with fail
  refine (match_any _ _ _ (by decide) (by decide) (hw.below hb1)).mono ?_
  rintro e w2 ⟨rfl, hb2⟩
  rw [E2.out]
  have hb12 : Below w.heap.size w w2 := hb1.trans (hb2.mono hb1.size)
  go_wp2_with fail
  refine (match_any _ _ _ (by decide) (by decide) (hw.below hb12)).mono ?_
  rintro e w3 ⟨rfl, hb3⟩
  rw [E3.out]
  have hb13 : Below w.heap.size w w3 := hb12.trans (hb3.mono hb12.size)
  go_wp2_with fail
  refine (fixed_any _ _ (by decide) (hw.below hb13)).mono ?_
  rintro e w4 ⟨r, rfl, hr, hb4⟩
  have hr' : r = ⟨#[97, 47, 98]⟩ := bytes_ext (hr.trans E4.out)
  rw [hr']
  go_wp2_with fail
  go_ret
  exact ⟨rfl, hb13.trans (hb4.mono hb13.size)⟩

set_option maxRecDepth 100000 in
set_option maxHeartbeats 1000000 in
theorem lawMatch_any (p s : ByteArray) (w : World) (hw : Std w) : Calls Tryd.prog 3 #[.string p, .string s] w (PBelow true w) := by
  go_enter Tryd.func3, Tryd.ntmps3
  go_wp2_with fail
  refine (alive_any _ hw).mono ?_
  rintro e w1 ⟨rfl, hb1⟩
  by_cases hp : (1500 : Int) < p.size
  · go_wp2_with fail
    go_ret
    exact ⟨rfl, hb1⟩
  by_cases hs : (1500 : Int) < s.size
  · go_wp2_with fail
    go_ret
    exact ⟨rfl, hb1⟩
  go_wp2_with fail
  refine (gmay_any p _ (by omega) (hw.below hb1)).mono ?_
  rintro e w2 ⟨rfl, hb2⟩
  have hb12 : Below w.heap.size w w2 := hb1.trans (hb2.mono hb1.size)
  go_wp2_with fail
  refine (refGmay_any p _ (by omega)).mono ?_
  rintro e w3 ⟨rfl, hb3⟩
  have hb13 : Below w.heap.size w w3 := hb12.trans (hb3.mono hb12.size)
  go_wp2_with fail
  refine (match_any p s _ (by omega) (by omega) (hw.below hb13)).mono ?_
  rintro e w4 ⟨rfl, hb4⟩
  have hb14 : Below w.heap.size w w4 := hb13.trans (hb4.mono hb13.size)
  go_wp2_with fail
  refine (refMatch_any p s _ (by omega) (by omega)).mono ?_
  rintro e w5 ⟨rfl, hb5⟩
  have hb15 : Below w.heap.size w w5 := hb14.trans (hb5.mono hb14.size)
  go_wp2_with fail
  refine (fixed_any p _ (by omega) (hw.below hb15)).mono ?_
  rintro e w6 ⟨r, rfl, hr, hb6⟩
  have hb16 : Below w.heap.size w w6 := hb15.trans (hb6.mono hb15.size)
  go_wp2_with fail
  refine (refFixed_any p _ (by omega)).mono ?_
  rintro e w7 ⟨r', rfl, hr', hb7⟩
  have hb17 : Below w.heap.size w w7 := hb16.trans (hb7.mono hb16.size)
  have e : r' = r := bytes_ext (hr'.trans hr.symm)
  rw [e]
  go_wp2_with fail
  go_ret
  exact ⟨rfl, hb17⟩
end Go.Proofs.YtabobdmgjmgifaaDoor
