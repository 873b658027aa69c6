/-
  The walk of label.Read.
-/
import Derived.Test.YthknljeffpbbmaaGreatDoorMTaken
import Derived.Test.YthknljeffpbbmaaGreatDoorMSame0
namespace Go.Proofs.YthknljeffpbbmaaGreatDoor
open Go Go.RowKit

def labC (p n : ByteArray) : Value := .agg #[.string p, .string n]
def PLabel (r : Except Int LabelP) (w : World) (e : Ending) (w' : World) : Prop :=
  Below w.heap.size w w' ∧ match r with
    | .ok x => ∃ p n : ByteArray, p.data.toList = x.pkg ∧ n.data.toList = x.name ∧ e = .returned (.tuple #[.agg #[.string p, .string n], .int .i64 0])
    | .error k => e = .returned (.tuple #[.agg #[.string ⟨#[]⟩, .string ⟨#[]⟩], .int .i64 k])
theorem cut_len (s p : List UInt8) : (Lib.cut s p).1.length ≤ s.length ∧ (Lib.cut s p).2.1.length ≤ s.length := by
  unfold Lib.cut
  split
  · exact ⟨by rw [List.length_take]; omega, by rw [List.length_drop]; omega⟩
  · exact ⟨Nat.le_refl _, by simp⟩
theorem lab_set {w W : World} {b : Nat} {c0 c1 : Value} {t : TypeId} (hn : w.heap.size ≤ b) (hb : Below w.heap.size w W) (hr : W.heap[b]? = some (.cells #[c0, c1] t (0, 0))) (v0 v1 : Value) :
    ((W.setCell ⟨b, 0, none⟩ v0).setCell ⟨b, 1, none⟩ v1).heap[b]? = some (.cells #[v0, v1] t (0, 0)) ∧ Below w.heap.size w ((W.setCell ⟨b, 0, none⟩ v0).setCell ⟨b, 1, none⟩ v1) :=
  ⟨by rw [set_same (set_same hr 0 _) 1 _]; rfl, (hb.setCell (p := ⟨b, 0, none⟩) hn _).setCell (p := ⟨b, 1, none⟩) hn _⟩

set_option maxRecDepth 100000 in
set_option maxHeartbeats 2000000 in
theorem labelRead_any (s pkg : ByteArray) (w : World) (hw : StdB w) (hs : s.size < 4294967281) (hp : pkg.size < 4294967281) :
    Calls Tryz.prog 19 #[.string s, .string pkg] w (PLabel (labelRead s.data.toList pkg.data.toList) w) := by
  have Hr : Hid (labelRead s.data.toList pkg.data.toList =
      if Lib.hasPrefix s.data.toList [58] = true then (if isPkg pkg.data.toList = false then .error 1 else if labelMay ⟨pkg.data.toList, (Lib.cut (Lib.trimPrefix s.data.toList [47, 47]) [58]).2.1⟩ = true then .ok ⟨pkg.data.toList, (Lib.cut (Lib.trimPrefix s.data.toList [47, 47]) [58]).2.1⟩ else .error 7)
      else if Lib.hasPrefix s.data.toList [47, 47] = false then .error 3 else if (Lib.cut (Lib.trimPrefix s.data.toList [47, 47]) [58]).2.2 = false then .error 3 else if labelMay ⟨(Lib.cut (Lib.trimPrefix s.data.toList [47, 47]) [58]).1, (Lib.cut (Lib.trimPrefix s.data.toList [47, 47]) [58]).2.1⟩ = true then .ok ⟨(Lib.cut (Lib.trimPrefix s.data.toList [47, 47]) [58]).1, (Lib.cut (Lib.trimPrefix s.data.toList [47, 47]) [58]).2.1⟩ else .error 7) := Lib.hid (labelRead_prog s.data.toList pkg.data.toList)
  have hts : (⟨(Lib.trimPrefix s.data.toList [47, 47]).toArray⟩ : ByteArray).size < 4294967281 := by
    show (Lib.trimPrefix s.data.toList [47, 47]).toArray.size < _
    rw [List.size_toArray]
    have h1 := len_data s
    unfold Lib.trimPrefix
    split
    · rw [List.length_drop]; omega
    · omega
  have hb0 : Below w.heap.size w (w.alloc (.cells #[.string ⟨#[]⟩, .string ⟨#[]⟩] 41)) := (Below.refl _ w).alloc (Nat.le_refl _) _
  have hn0 := heap_alloc_new w (.cells #[.string ⟨#[]⟩, .string ⟨#[]⟩] 41)
  obtain ⟨m, hm⟩ := hw.below hb0
  have HCut := Lib.hid (Tryz.strings_Cut ⟨(Lib.trimPrefix s.data.toList [47, 47]).toArray⟩ ⟨#[58]⟩ m _ hts hm)
  have Hb0 := Lib.hid (And.intro hb0 (And.intro hn0 hw))
  have hcl := cut_len (Lib.trimPrefix s.data.toList [47, 47]) [58]
  have hc1 : (⟨(Lib.cut (Lib.trimPrefix s.data.toList [47, 47]) [58]).1.toArray⟩ : ByteArray).size < 4294967281 := by
    show (Lib.cut (Lib.trimPrefix s.data.toList [47, 47]) [58]).1.toArray.size < _
    rw [List.size_toArray]
    have h2 : (Lib.trimPrefix s.data.toList [47, 47]).toArray.size < 4294967281 := hts
    rw [List.size_toArray] at h2
    omega
  have hc2 : (⟨(Lib.cut (Lib.trimPrefix s.data.toList [47, 47]) [58]).2.1.toArray⟩ : ByteArray).size < 4294967281 := by
    show (Lib.cut (Lib.trimPrefix s.data.toList [47, 47]) [58]).2.1.toArray.size < _
    rw [List.size_toArray]
    have h2 : (Lib.trimPrefix s.data.toList [47, 47]).toArray.size < 4294967281 := hts
    rw [List.size_toArray] at h2
    omega
  clear hts hm hw hb0 hn0 hcl
  go_enter Tryz.func19, Tryz.ntmps19
  go_wp2_with fail
  refine (Tryz.strings_HasPrefix s _ _).mono ?_
  rintro e w1 ⟨rfl, rfl⟩
  go_wp2_with fail
  refine (Tryz.strings_CutPrefix s _ _).mono ?_
  rintro e w1 ⟨rfl, rfl⟩
  go_wp2_with fail
  refine HCut.out.mono ?_
  rintro e w1 ⟨rfl, n, rfl⟩
  clear HCut
  have hl1 : (Lib.cut (Lib.trimPrefix s.data.toList [47, 47]) [58]).1 = (⟨(Lib.cut (Lib.trimPrefix s.data.toList [47, 47]) [58]).1.toArray⟩ : ByteArray).data.toList := rfl
  have hl2 : (Lib.cut (Lib.trimPrefix s.data.toList [47, 47]) [58]).2.1 = (⟨(Lib.cut (Lib.trimPrefix s.data.toList [47, 47]) [58]).2.1.toArray⟩ : ByteArray).data.toList := rfl
  rw [hl1, hl2] at Hr
  clear hl1 hl2
  generalize (⟨(Lib.cut (Lib.trimPrefix s.data.toList [47, 47]) [58]).1.toArray⟩ : ByteArray) = c1 at Hr hc1 ⊢
  generalize (⟨(Lib.cut (Lib.trimPrefix s.data.toList [47, 47]) [58]).2.1.toArray⟩ : ByteArray) = c2 at Hr hc2 ⊢
  generalize (Lib.cut (Lib.trimPrefix s.data.toList [47, 47]) [58]).2.2 = c3 at Hr ⊢
  have Hb1 : Hid (Below w.heap.size w ((w.alloc (.cells #[.string ⟨#[]⟩, .string ⟨#[]⟩] 41)).drewN n) ∧ ((w.alloc (.cells #[.string ⟨#[]⟩, .string ⟨#[]⟩] 41)).drewN n).heap[w.heap.size]? = some (.cells #[.string ⟨#[]⟩, .string ⟨#[]⟩] 41 (0, 0)) ∧ StdB w) := Lib.hid ⟨below_drewN Hb0.out.1 n, Hb0.out.2⟩
  clear Hb0
  have hsz9 : w.heap.size < ((w.alloc (.cells #[.string ⟨#[]⟩, .string ⟨#[]⟩] 41)).drewN n).heap.size := by simp
  cases hown : Lib.hasPrefix s.data.toList [58]
  · rw [hown, if_neg (by decide)] at Hr
    clear hown
    obtain ⟨v0, v1, v2, v3, v4⟩ := two_facts Hb1.out.2.1
    cases hfar : Lib.hasPrefix s.data.toList [47, 47]
    · rw [hfar, if_pos rfl] at Hr
      clear hfar
      have H8 := Lib.hid (And.intro Hb1.out.1 Hb1.out.2.1)
      have hend := lab_set (Nat.le_refl _) H8.out.1 H8.out.2 (.string ⟨#[]⟩) (.string ⟨#[]⟩)
      go_wp2_with fail
      generalize World.setCell _ _ _ = W9 at hend ⊢
      obtain ⟨p0, p1, p2, p3, p4⟩ := two_facts hend.1
      refine bodyPost_ret (v := .tuple #[.agg #[.string ⟨#[]⟩, .string ⟨#[]⟩], .int .i64 3]) (by simp [results, Tryz.results19, go_sem, p1, p2]) rfl ?_
      unfold PLabel
      rw [Hr.out]
      exact ⟨hend.2, rfl⟩
    rw [hfar, if_neg (by decide)] at Hr
    clear hfar
    cases c3 with
    | false =>
      rw [if_pos rfl] at Hr
      have H8 := Lib.hid (And.intro Hb1.out.1 Hb1.out.2.1)
      have hend := lab_set (Nat.le_refl _) H8.out.1 H8.out.2 (.string ⟨#[]⟩) (.string ⟨#[]⟩)
      go_wp2_with fail
      generalize World.setCell _ _ _ = W9 at hend ⊢
      obtain ⟨p0, p1, p2, p3, p4⟩ := two_facts hend.1
      refine bodyPost_ret (v := .tuple #[.agg #[.string ⟨#[]⟩, .string ⟨#[]⟩], .int .i64 3]) (by simp [results, Tryz.results19, go_sem, p1, p2]) rfl ?_
      unfold PLabel
      rw [Hr.out]
      exact ⟨hend.2, rfl⟩
    | true =>
      rw [if_neg (by decide)] at Hr
      clear v0 v1 v2 v3 v4
      have hb2 : Below w.heap.size w (((w.alloc (.cells #[.string ⟨#[]⟩, .string ⟨#[]⟩] 41)).drewN n).alloc (.cells #[.string c1, .string c2] 41)) := Hb1.out.1.alloc (by simp) _
      have hx0 : (((w.alloc (.cells #[.string ⟨#[]⟩, .string ⟨#[]⟩] 41)).drewN n).alloc (.cells #[.string c1, .string c2] 41)).heap[w.heap.size]? = some (.cells #[.string ⟨#[]⟩, .string ⟨#[]⟩] 41 (0, 0)) := stays Hb1.out.2.1 ((Below.refl _ _).alloc (Nat.le_refl _) _)
      have hx1 : (((w.alloc (.cells #[.string ⟨#[]⟩, .string ⟨#[]⟩] 41)).drewN n).alloc (.cells #[.string c1, .string c2] 41)).heap[w.heap.size + 1]? = some (.cells #[.string c1, .string c2] 41 (0, 0)) := by
        have := heap_alloc_new ((w.alloc (.cells #[.string ⟨#[]⟩, .string ⟨#[]⟩] 41)).drewN n) (.cells #[.string c1, .string c2] 41)
        simpa using this
      have Hb2 := Lib.hid (And.intro hb2 (And.intro hx0 hx1))
      clear hb2 hx0 hx1
      go_wp2_with fail
      have hz : True := trivial
      refine (labelMay_any c1 c2 _ (Hb1.out.2.2.below Hb2.out.1) hc1 hc2).mono ?_
      rintro e w2 ⟨rfl, hb4⟩
      have Hb4 := Lib.hid (And.intro (Hb2.out.1.trans (hb4.mono Hb2.out.1.size)) (And.intro (stays Hb2.out.2.1 hb4) (stays Hb2.out.2.2 hb4)))
      clear hb4
      have H8 := Lib.hid (And.intro Hb4.out.1 Hb4.out.2.1)
      obtain ⟨u0, u1, u2, u3, u4⟩ := two_facts Hb4.out.2.2
      obtain ⟨v0, v1, v2, v3, v4⟩ := two_facts Hb4.out.2.1
      cases hm : labelMay ⟨c1.data.toList, c2.data.toList⟩
      · rw [hm, if_neg (by decide)] at Hr
        clear hm
        have hend := lab_set (Nat.le_refl _) H8.out.1 H8.out.2 (.string ⟨#[]⟩) (.string ⟨#[]⟩)
        go_wp2_with fail
        generalize World.setCell _ _ _ = W9 at hend ⊢
        obtain ⟨p0, p1, p2, p3, p4⟩ := two_facts hend.1
        refine bodyPost_ret (v := .tuple #[.agg #[.string ⟨#[]⟩, .string ⟨#[]⟩], .int .i64 7]) (by simp [results, Tryz.results19, go_sem, p1, p2]) rfl ?_
        unfold PLabel
        rw [Hr.out]
        exact ⟨hend.2, rfl⟩
      · rw [hm, if_pos rfl] at Hr
        clear hm
        have hend := lab_set (Nat.le_refl _) H8.out.1 H8.out.2 (.string c1) (.string c2)
        go_wp2_with fail
        generalize World.setCell _ _ _ = W9 at hend ⊢
        obtain ⟨p0, p1, p2, p3, p4⟩ := two_facts hend.1
        refine bodyPost_ret (v := .tuple #[.agg #[.string c1, .string c2], .int .i64 0]) (by simp [results, Tryz.results19, go_sem, p1, p2]) rfl ?_
        unfold PLabel
        rw [Hr.out]
        exact ⟨hend.2, c1, c2, rfl, rfl, rfl⟩
  · rw [hown, if_pos rfl] at Hr
    clear hown
    have hb2 : Below w.heap.size w (((w.alloc (.cells #[.string ⟨#[]⟩, .string ⟨#[]⟩] 41)).drewN n).alloc (.cells #[.string pkg, .string c2] 41)) := Hb1.out.1.alloc (by simp) _
    have hx0 : (((w.alloc (.cells #[.string ⟨#[]⟩, .string ⟨#[]⟩] 41)).drewN n).alloc (.cells #[.string pkg, .string c2] 41)).heap[w.heap.size]? = some (.cells #[.string ⟨#[]⟩, .string ⟨#[]⟩] 41 (0, 0)) := stays Hb1.out.2.1 ((Below.refl _ _).alloc (Nat.le_refl _) _)
    have hx1 : (((w.alloc (.cells #[.string ⟨#[]⟩, .string ⟨#[]⟩] 41)).drewN n).alloc (.cells #[.string pkg, .string c2] 41)).heap[w.heap.size + 1]? = some (.cells #[.string pkg, .string c2] 41 (0, 0)) := by
      have := heap_alloc_new ((w.alloc (.cells #[.string ⟨#[]⟩, .string ⟨#[]⟩] 41)).drewN n) (.cells #[.string pkg, .string c2] 41)
      simpa using this
    have Hb2 := Lib.hid (And.intro hb2 (And.intro hx0 hx1))
    clear hb2 hx0 hx1
    go_wp2_with fail
    refine (isPkg_any pkg _ (by omega)).mono ?_
    rintro e w1 ⟨rfl, hb3⟩
    have Hb3 := Lib.hid (And.intro (Hb2.out.1.trans (hb3.mono Hb2.out.1.size)) (And.intro (stays Hb2.out.2.1 hb3) (stays Hb2.out.2.2 hb3)))
    clear hb3 Hb2
    cases hk : isPkg pkg.data.toList
    · rw [hk, if_pos rfl] at Hr
      clear hk
      have H8 := Lib.hid (And.intro Hb3.out.1 Hb3.out.2.1)
      obtain ⟨v0, v1, v2, v3, v4⟩ := two_facts H8.out.2
      have hend := lab_set (Nat.le_refl _) H8.out.1 H8.out.2 (.string ⟨#[]⟩) (.string ⟨#[]⟩)
      go_wp2_with fail
      generalize World.setCell _ _ _ = W9 at hend ⊢
      obtain ⟨p0, p1, p2, p3, p4⟩ := two_facts hend.1
      refine bodyPost_ret (v := .tuple #[.agg #[.string ⟨#[]⟩, .string ⟨#[]⟩], .int .i64 1]) (by simp [results, Tryz.results19, go_sem, p1, p2]) rfl ?_
      unfold PLabel
      rw [Hr.out]
      exact ⟨hend.2, rfl⟩
    rw [hk, if_neg (by decide)] at Hr
    clear hk
    have Hb2 := Hb3
    clear Hb3
    obtain ⟨s0, s1, s2, s3, s4⟩ := two_facts Hb2.out.2.2
    go_wp2_with fail
    refine (labelMay_any pkg c2 _ (Hb1.out.2.2.below Hb2.out.1) hp hc2).mono ?_
    rintro e w2 ⟨rfl, hb4⟩
    have Hb4 := Lib.hid (And.intro (Hb2.out.1.trans (hb4.mono Hb2.out.1.size)) (And.intro (stays Hb2.out.2.1 hb4) (stays Hb2.out.2.2 hb4)))
    clear hb4
    have H8 := Lib.hid (And.intro Hb4.out.1 Hb4.out.2.1)
    obtain ⟨u0, u1, u2, u3, u4⟩ := two_facts Hb4.out.2.2
    obtain ⟨v0, v1, v2, v3, v4⟩ := two_facts Hb4.out.2.1
    cases hm : labelMay ⟨pkg.data.toList, c2.data.toList⟩
    · rw [hm, if_neg (by decide)] at Hr
      clear hm
      have hend := lab_set (Nat.le_refl _) H8.out.1 H8.out.2 (.string ⟨#[]⟩) (.string ⟨#[]⟩)
      go_wp2_with fail
      generalize World.setCell _ _ _ = W9 at hend ⊢
      obtain ⟨p0, p1, p2, p3, p4⟩ := two_facts hend.1
      refine bodyPost_ret (v := .tuple #[.agg #[.string ⟨#[]⟩, .string ⟨#[]⟩], .int .i64 7]) (by simp [results, Tryz.results19, go_sem, p1, p2]) rfl ?_
      unfold PLabel
      rw [Hr.out]
      exact ⟨hend.2, rfl⟩
    · rw [hm, if_pos rfl] at Hr
      clear hm
      have hend := lab_set (Nat.le_refl _) H8.out.1 H8.out.2 (.string pkg) (.string c2)
      go_wp2_with fail
      generalize World.setCell _ _ _ = W9 at hend ⊢
      obtain ⟨p0, p1, p2, p3, p4⟩ := two_facts hend.1
      refine bodyPost_ret (v := .tuple #[.agg #[.string pkg, .string c2], .int .i64 0]) (by simp [results, Tryz.results19, go_sem, p1, p2]) rfl ?_
      unfold PLabel
      rw [Hr.out]
      exact ⟨hend.2, pkg, c2, rfl, rfl, rfl⟩
end Go.Proofs.YthknljeffpbbmaaGreatDoor
