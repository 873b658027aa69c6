/-
  The walk of the statement GlobsFixed.
-/
import Derived.Test.YtabobdmgjmgifaaDoorLawMatch
import Derived.Test.YtabobdmgjmgifaaDoorLast
namespace Go.Proofs.YtabobdmgjmgifaaDoor
open Go Go.RowKit

theorem last_size {s x : ByteArray} {a : List Bs} (h : cutAt 47 s.data.toList = a ++ [x.data.toList]) : x.size ≤ s.size := by
  have : ∀ (l : Bs) (y : Bs), y ∈ cutAt 47 l → y.length ≤ l.length := by
    intro l
    induction l with
    | nil => intro y hy; simp [cutAt] at hy; subst hy; simp
    | cons z t ih =>
      intro y hy
      by_cases hz : z = 47
      · subst hz
        rw [cutAt_cons_hit] at hy
        rcases List.mem_cons.1 hy with rfl | hy
        · simp
        · have := ih y hy; simp only [List.length_cons]; omega
      · obtain ⟨b, l, h1, h2⟩ := cutAt_cons_miss hz t
        rw [h2] at hy
        rcases List.mem_cons.1 hy with rfl | hy
        · have := ih b (by rw [h1]; exact List.mem_cons_self ..); simp only [List.length_cons]; omega
        · have := ih y (by rw [h1]; exact List.mem_cons_of_mem _ hy); simp only [List.length_cons]; omega
  have := this s.data.toList x.data.toList (by rw [h]; simp)
  rwa [len_data, len_data] at this

set_option maxRecDepth 100000 in
set_option maxHeartbeats 2000000 in
theorem lawFixed_any (p s o : ByteArray) (w : World) (hw : Std w) : Calls Tryd.prog 5 #[.string p, .string s, .string o] w (PBelow true w) := by
  go_enter Tryd.func5, Tryd.ntmps5
  go_wp2_with fail
  refine (alive_any _ hw).mono ?_
  rintro e w1 ⟨rfl, hb1⟩
  by_cases hp : (500 : Int) < p.size
  · go_wp2_with fail
    go_ret
    exact ⟨rfl, hb1⟩
  by_cases hs : (500 : Int) < s.size
  · go_wp2_with fail
    go_ret
    exact ⟨rfl, hb1⟩
  by_cases ho : (500 : Int) < o.size
  · go_wp2_with fail
    go_ret
    exact ⟨rfl, hb1⟩
  have hw1 := hw.below hb1
  cases hpo : pathOk s.data.toList
  · have Hno : Hid (gmatch p.data.toList s.data.toList = false) := Lib.hid (by unfold gmatch; rw [hpo, Bool.and_false]; rfl)
    have Hpo := Lib.hid hpo
    clear hpo
    go_wp2_with fail
    refine (match_any p s _ (by omega) (by omega) hw1).mono ?_
    rintro e w2 ⟨rfl, hb2⟩
    have hb12 : Below w.heap.size w w2 := hb1.trans (hb2.mono hb1.size)
    rw [Hno.out]
    go_wp2_with fail
    refine (refMay_any s _ (by omega)).mono ?_
    rintro e w3 ⟨rfl, hb3⟩
    have hb13 : Below w.heap.size w w3 := hb12.trans (hb3.mono hb12.size)
    rw [Hpo.out]
    go_wp2_with fail
    refine (match_any p s _ (by omega) (by omega) (hw.below hb13)).mono ?_
    rintro e w4 ⟨rfl, hb4⟩
    have hb14 : Below w.heap.size w w4 := hb13.trans (hb4.mono hb13.size)
    rw [Hno.out]
    go_wp2_with fail
    go_ret
    exact ⟨rfl, hb14⟩
  have Hpo := Lib.hid hpo
  clear hpo
  have Hgm : Hid (gmay s.data.toList = true) := Lib.hid (gmay_of_pathOk Hpo.out)
  have Hss : Hid (gmatch s.data.toList s.data.toList = true) := Lib.hid (by rw [gmatch_self Hpo.out]; simp)
  obtain ⟨b, hso, Hso⟩ : ∃ b, (s.toList == o.toList) = b ∧ Hid (gmatch s.data.toList o.data.toList = b) :=
    ⟨_, rfl, Lib.hid (by rw [gmatch_self Hpo.out, Lib.toList_data, Lib.toList_data])⟩
  have Hfx : Hid (gfixed s.data.toList = s.data.toList) := Lib.hid (gfixed_path Hpo.out)
  have Hst : Hid (gmatch (⟨#[42, 42]⟩ : ByteArray).data.toList s.data.toList = true) := Lib.hid (gmatch_stars Hpo.out)
  obtain ⟨nc, hnc, Hct⟩ : ∃ nc : Nat, nc < 16 ∧ Hid (Lib.countByte s.data.toList 47 = nc) := by
    refine ⟨_, ?_, Lib.hid rfl⟩
    have := pathOk_len Hpo.out
    rw [cutAt_length] at this
    unfold Lib.countByte
    omega
  have hct : decide ((nc : Int) < 16) = true := by rw [decide_eq_true_eq]; omega
  go_wp2_with fail
  refine (match_any p s _ (by omega) (by omega) hw1).mono ?_
  rintro e w2 ⟨rfl, hb2⟩
  have hb12 : Below w.heap.size w w2 := hb1.trans (hb2.mono hb1.size)
  cases hm : gmatch p.data.toList s.data.toList
  · clear hm
    have hb13 := hb12
    go_wp2_with fail
    refine (refMay_any s _ (by omega)).mono ?_
    rintro e w4 ⟨rfl, hb4⟩
    have hb14 : Below w.heap.size w w4 := hb13.trans (hb4.mono hb13.size)
    rw [Hpo.out]
    go_wp2_with fail
    refine (gmay_any s _ (by omega) (hw.below hb14)).mono ?_
    rintro e w5 ⟨rfl, hb5⟩
    have hb15 : Below w.heap.size w w5 := hb14.trans (hb5.mono hb14.size)
    rw [Hgm.out]
    go_wp2_with fail
    refine (match_any s s _ (by omega) (by omega) (hw.below hb15)).mono ?_
    rintro e w6 ⟨rfl, hb6⟩
    have hb16 : Below w.heap.size w w6 := hb15.trans (hb6.mono hb15.size)
    rw [Hss.out]
    go_wp2_with fail
    refine (match_any s o _ (by omega) (by omega) (hw.below hb16)).mono ?_
    rintro e w7 ⟨rfl, hb7⟩
    have hb17 : Below w.heap.size w w7 := hb16.trans (hb7.mono hb16.size)
    rw [Hso.out]
    go_wp2_with fail
    refine (fixed_any s _ (by omega) (hw.below hb17)).mono ?_
    rintro e w8 ⟨r, rfl, hr, hb8⟩
    have hb18 : Below w.heap.size w w8 := hb17.trans (hb8.mono hb17.size)
    obtain rfl : r = s := bytes_ext (hr.trans Hfx.out)
    go_wp2_with fail
    refine (match_any _ r _ (by decide) (by omega) (hw.below hb18)).mono ?_
    rintro e w9 ⟨rfl, hb9⟩
    have hb19 : Below w.heap.size w w9 := hb18.trans (hb9.mono hb18.size)
    rw [Hst.out]
    go_wp2_with fail
    refine (last_any r _ (by omega)).mono ?_
    rintro e w10 ⟨x, rfl, ⟨a, hx⟩, rfl⟩
    have Hx := Lib.hid hx
    have Hxs := Lib.hid (last_size hx)
    clear hx
    have hxz := Hxs.out
    go_wp2_with fail
    refine (match_any _ r _ (by rw [ByteArray.size_append]; show 3 + x.size < _; omega) (by omega) (hw.below hb19)).mono ?_
    rintro e w11 ⟨rfl, hb11⟩
    have hb111 : Below w.heap.size w w11 := hb19.trans (hb11.mono hb19.size)
    rw [show gmatch ((⟨#[42, 42, 47]⟩ : ByteArray) ++ x).data.toList r.data.toList = true from by rw [show ((⟨#[42, 42, 47]⟩ : ByteArray) ++ x).data.toList = 42 :: 42 :: 47 :: x.data.toList from by simp]; exact gmatch_last Hpo.out Hx.out]
    go_wp2_with fail
    refine (Tryd.strings_Count_one r 47 _).mono ?_
    rintro e w12 ⟨he, rfl⟩
    rw [Hct.out] at he
    subst he
    clear hxz
    go_wp2_with fail
    go_ret
    exact ⟨rfl, hb111⟩
  · have Hpre : Hid (gfixed p.data.toList <+: s.data.toList) := Lib.hid (gmatch_fixed hm)
    clear hm
    go_wp2_with fail
    refine (fixed_any p _ (by omega) (hw.below hb12)).mono ?_
    rintro e w3 ⟨f, rfl, hf, hb3⟩
    have hb13 : Below w.heap.size w w3 := hb12.trans (hb3.mono hb12.size)
    have Hf := Lib.hid hf
    clear hf
    go_wp2_with fail
    refine (Tryd.strings_HasPrefix s f _).mono ?_
    rintro e w3' ⟨rfl, rfl⟩
    rw [show Lib.hasPrefix s.data.toList f.data.toList = true from by rw [Hf.out]; exact List.isPrefixOf_iff_prefix.2 Hpre.out]
    go_wp2_with fail
    refine (refMay_any s _ (by omega)).mono ?_
    rintro e w4 ⟨rfl, hb4⟩
    have hb14 : Below w.heap.size w w4 := hb13.trans (hb4.mono hb13.size)
    rw [Hpo.out]
    go_wp2_with fail
    refine (gmay_any s _ (by omega) (hw.below hb14)).mono ?_
    rintro e w5 ⟨rfl, hb5⟩
    have hb15 : Below w.heap.size w w5 := hb14.trans (hb5.mono hb14.size)
    rw [Hgm.out]
    go_wp2_with fail
    refine (match_any s s _ (by omega) (by omega) (hw.below hb15)).mono ?_
    rintro e w6 ⟨rfl, hb6⟩
    have hb16 : Below w.heap.size w w6 := hb15.trans (hb6.mono hb15.size)
    rw [Hss.out]
    go_wp2_with fail
    refine (match_any s o _ (by omega) (by omega) (hw.below hb16)).mono ?_
    rintro e w7 ⟨rfl, hb7⟩
    have hb17 : Below w.heap.size w w7 := hb16.trans (hb7.mono hb16.size)
    rw [Hso.out]
    go_wp2_with fail
    refine (fixed_any s _ (by omega) (hw.below hb17)).mono ?_
    rintro e w8 ⟨r, rfl, hr, hb8⟩
    have hb18 : Below w.heap.size w w8 := hb17.trans (hb8.mono hb17.size)
    obtain rfl : r = s := bytes_ext (hr.trans Hfx.out)
    go_wp2_with fail
    refine (match_any _ r _ (by decide) (by omega) (hw.below hb18)).mono ?_
    rintro e w9 ⟨rfl, hb9⟩
    have hb19 : Below w.heap.size w w9 := hb18.trans (hb9.mono hb18.size)
    rw [Hst.out]
    go_wp2_with fail
    refine (last_any r _ (by omega)).mono ?_
    rintro e w10 ⟨x, rfl, ⟨a, hx⟩, rfl⟩
    have Hx := Lib.hid hx
    have Hxs := Lib.hid (last_size hx)
    clear hx
    have hxz := Hxs.out
    go_wp2_with fail
    refine (match_any _ r _ (by rw [ByteArray.size_append]; show 3 + x.size < _; omega) (by omega) (hw.below hb19)).mono ?_
    rintro e w11 ⟨rfl, hb11⟩
    have hb111 : Below w.heap.size w w11 := hb19.trans (hb11.mono hb19.size)
    rw [show gmatch ((⟨#[42, 42, 47]⟩ : ByteArray) ++ x).data.toList r.data.toList = true from by rw [show ((⟨#[42, 42, 47]⟩ : ByteArray) ++ x).data.toList = 42 :: 42 :: 47 :: x.data.toList from by simp]; exact gmatch_last Hpo.out Hx.out]
    go_wp2_with fail
    refine (Tryd.strings_Count_one r 47 _).mono ?_
    rintro e w12 ⟨he, rfl⟩
    rw [Hct.out] at he
    subst he
    clear hxz
    go_wp2_with fail
    go_ret
    exact ⟨rfl, hb111⟩

end Go.Proofs.YtabobdmgjmgifaaDoor
