/-
  The walk of globs.Match: does a pattern match a path?
-/
import Derived.Test.YtabobdmgjmgifaaDoorDealWalk
import Derived.Laws.EntriesVeiled
namespace Go.Proofs.YtabobdmgjmgifaaDoor
open Go Go.RowKit

/-- Does a pattern match a path? -/
def gmatch (p s : Bs) : Bool := gmay p && pathOk s && deal (cutAt 47 p) (cutAt 47 s)

theorem gmay_len {l : Bs} (h : gmay l = true) : (cutAt 47 l).length ≤ 16 := by
  unfold gmay at h; simp only [Bool.and_eq_true, decide_eq_true_eq] at h; exact h.1
theorem pathOk_len {l : Bs} (h : pathOk l = true) : (cutAt 47 l).length ≤ 16 := by
  unfold pathOk at h; simp only [Bool.and_eq_true, decide_eq_true_eq] at h; exact h.1

set_option maxRecDepth 100000 in
set_option maxHeartbeats 1000000 in
theorem match_any (p s : ByteArray) (w : World) (hp : p.size < 4294967281) (hs : s.size < 4294967281) (hw : Std w) :
    Calls Tryd.prog 11 #[.string p, .string s] w (PBelow (gmatch p.data.toList s.data.toList) w) := by
  go_enter Tryd.func11, Tryd.ntmps11
  go_wp2_with fail
  refine (gmay_any p _ hp hw).mono ?_
  rintro e w1 ⟨rfl, hb1⟩
  cases hgm : gmay p.data.toList
  · have H : Hid (gmatch p.data.toList s.data.toList = false) := Lib.hid (by unfold gmatch; rw [hgm]; rfl)
    clear hgm
    go_wp2_with fail
    go_ret
    exact ⟨ret_bool H.out.symm, hb1⟩
  have Hgm := Lib.hid hgm
  clear hgm
  go_wp2_with fail
  refine (pathMay_any s _ (by omega)).mono ?_
  rintro e w2 ⟨rfl, hb2⟩
  have hb12 : Below w.heap.size w w2 := hb1.trans (hb2.mono hb1.size)
  cases hpo : pathOk s.data.toList
  · have H : Hid (gmatch p.data.toList s.data.toList = false) := Lib.hid (by unfold gmatch; rw [hpo, Bool.and_false]; rfl)
    clear hpo
    go_wp2_with fail
    go_ret
    exact ⟨ret_bool H.out.symm, hb12⟩
  have Hpo := Lib.hid hpo
  have hw2 := hw.below hb12
  have h12 := hb12.size
  clear hpo hb1 hb2
  go_wp2_with fail
  refine (split_any 47 p _ hp hw2).mono ?_
  rintro e w3 ⟨l, rfl, hcut, hat, hb3, hz3, hsz⟩
  have Hcut := Lib.hid hcut
  have Hz3 := Lib.hid hz3
  have Hsz := Lib.hid hsz
  clear hcut hz3 hsz
  go_wp2_with fail
  have hw3 : Std (w3.alloc (.cells #[.slice (some ⟨w2.heap.size, 0, none⟩) l.length l.length] 28)) :=
    (hw2.below hb3).below ((Below.refl _ w3).alloc (Nat.le_refl _) _)
  refine (split_any 47 s _ hs hw3).mono ?_
  rintro e w4 ⟨m, rfl, hcut4, hat4, hb4, hz4, hsz4⟩
  simp only [World.size_alloc] at hb4 hat4 ⊢
  have hvp : w4.cell? ⟨w3.heap.size, 0, none⟩ = some (.slice (some ⟨w2.heap.size, 0, none⟩) l.length l.length) := by
    rw [hb4.cell (p := ⟨w3.heap.size, 0, none⟩) (by simp)]; go_simp
  have hb34 : Below w3.heap.size w3 w4 := ((Below.refl _ w3).alloc (Nat.le_refl _) _).trans (hb4.mono (by simp))
  have hat3 : StrsAt w4 (some ⟨w2.heap.size, 0, none⟩) l := hat.below hb34
  have hb04 : Below w.heap.size w w4 := hb12.trans ((hb3.mono h12).trans (hb34.mono (Nat.le_trans h12 hb3.size)))
  have h3 := hb3.size
  have h4 := hb34.size
  have Hcut4 := Lib.hid hcut4
  have Hz4 := Lib.hid hz4
  have Hsz4 := Lib.hid hsz4
  clear hcut4 hz4 hsz4 hb4 hb34 hat
  have hmm := @run_makeMap Tryd.prog
  go_wp2_with fail
  have hl16 : l.length ≤ 16 := by have := congrArg List.length Hcut.out; rw [List.length_map] at this; have h2 := gmay_len Hgm.out; omega
  have hm16 : m.length ≤ 16 := by have := congrArg List.length Hcut4.out; rw [List.length_map] at this; have h2 := pathOk_len Hpo.out; omega
  have hinv : DealInv w ⟨w3.heap.size, w4.heap.size, w4.heap.size + 1 + 1, w4.heap.size + 1 + 1 + 1, w4.heap.size + 1, w2.heap.size, w3.heap.size + 1⟩ l m
      ((((w4.alloc (.cells #[.slice (some ⟨w3.heap.size + 1, 0, none⟩) m.length m.length] 28)).alloc (.map #[] 0)).alloc (.cells #[.map (some (w4.heap.size + 1))] 39)).alloc
        (.cells #[.func (.func 31) #[] #[.pointer (some ⟨w3.heap.size, 0, none⟩), .pointer (some ⟨w4.heap.size, 0, none⟩), .pointer (some ⟨w4.heap.size + 1 + 1, 0, none⟩), .pointer (some ⟨w4.heap.size + 1 + 1 + 1, 0, none⟩)]] 40)) := by
    have hb5 : Below w4.heap.size w4 ((((w4.alloc (.cells #[.slice (some ⟨w3.heap.size + 1, 0, none⟩) m.length m.length] 28)).alloc (.map #[] 0)).alloc (.cells #[.map (some (w4.heap.size + 1))] 39)).alloc
        (.cells #[.func (.func 31) #[] #[.pointer (some ⟨w3.heap.size, 0, none⟩), .pointer (some ⟨w4.heap.size, 0, none⟩), .pointer (some ⟨w4.heap.size + 1 + 1, 0, none⟩), .pointer (some ⟨w4.heap.size + 1 + 1 + 1, 0, none⟩)]] 40)) :=
      ((((Below.refl _ w4).alloc (Nat.le_refl _) _).alloc (by simp) _).alloc (by simp; omega) _).alloc (by simp; omega) _
    refine ⟨(hb5.cell (p := ⟨w3.heap.size, 0, none⟩) (block_of_cell hvp)).trans hvp, by go_simp, by go_simp, by go_simp, hat3.below hb5, hat4.below hb5, ⟨[], ?_, (fun p h => by cases h), (fun p h => by cases h)⟩, by show w.heap.size ≤ w4.heap.size + 1; have := hb04.size; omega, hb04.trans (hb5.mono hb04.size)⟩
    refine ⟨#[], 0, ?_, rfl⟩
    show _ = some (Obj.map #[] 0)
    rw [Below.heap_alloc _ _ _ (by simp), Below.heap_alloc _ _ _ (by simp)]
    have := World.alloc_heap_new (w4.alloc (.cells #[.slice (some ⟨w3.heap.size + 1, 0, none⟩) m.length m.length] 28)) (.map #[] 0)
    rwa [World.size_alloc] at this
  have hd := deal_any w ⟨w3.heap.size, w4.heap.size, w4.heap.size + 1 + 1, w4.heap.size + 1 + 1 + 1, w4.heap.size + 1, w2.heap.size, w3.heap.size + 1⟩ l m (by omega) (by omega)
    (fun x hx => by have := Hsz.out x hx; omega) (fun x hx => by have := Hsz4.out x hx; omega) _ 0 0 _ (Nat.zero_le _) (Nat.zero_le _) (Nat.le_refl _) hinv
  have hdeal : dealAt (bytesOf l) (bytesOf m) 0 0 = gmatch p.data.toList s.data.toList := by
    unfold dealAt gmatch
    rw [List.drop_zero, List.drop_zero, Hgm.out, Hpo.out]
    unfold bytesOf
    rw [Hcut.out, Hcut4.out]; rfl
  rw [hdeal] at hd
  refine hd.mono ?_
  rintro e w5 ⟨rfl, hW5⟩
  have hb5 := hW5.2.2.2.2.2.2.2.2
  go_wp2_with fail
  go_ret
  exact ⟨rfl, hb5⟩
end Go.Proofs.YtabobdmgjmgifaaDoor
