/-
  The walk of the reference's Pick.
-/
import Derived.Test.YtabobdmgjmgifaaDoorAnyOf
import Derived.Test.YtabobdmgjmgifaaDoorPickPlain
namespace Go.Proofs.YtabobdmgjmgifaaDoor
open Go Go.RowKit

def picks (yes no : List ByteArray) (x : ByteArray) : Bool := ganyOf yes x && !ganyOf no x
def refPickL (yes no : List ByteArray) (l : List ByteArray) : List ByteArray := l.foldl (fun o x => if picks yes no x then insL x false o else o) []

theorem insL_len (s : ByteArray) (dn : Bool) (l : List ByteArray) : (insL s dn l).length ≤ l.length + 1 := by
  have : (insL s dn l).length ≤ l.length + (if dn then 0 else 1) := by
    induction l generalizing dn with
    | nil => cases dn <;> simp [insL]
    | cons x t ih =>
      have h := ih (dn || !Op.bytesLess x.toList s.toList)
      rw [insL, List.length_append, List.length_append, List.length_cons]
      cases dn <;> cases hb : Op.bytesLess x.toList s.toList <;> cases he : (x.toList == s.toList) <;> rw [hb] at h <;> simp at h ⊢ <;> omega
  split at this <;> omega
theorem refPickL_succ (yes no : List ByteArray) (l : List ByteArray) {k : Nat} (h : k < l.length) : refPickL yes no (l.take (k + 1)) = if picks yes no l[k] then insL l[k] false (refPickL yes no (l.take k)) else refPickL yes no (l.take k) := by
  unfold refPickL
  rw [List.take_add_one, List.getElem?_eq_getElem h, Option.toList_some, List.foldl_append]; rfl
theorem refPickL_rise (yes no l : List ByteArray) : Rise (refPickL yes no l) ∧ ∀ x, x ∈ refPickL yes no l ↔ x ∈ l ∧ picks yes no x = true := by
  have : ∀ (l o : List ByteArray), Rise o → Rise (l.foldl (fun o x => if picks yes no x then insL x false o else o) o) ∧ ∀ x, x ∈ l.foldl (fun o x => if picks yes no x then insL x false o else o) o ↔ x ∈ o ∨ (x ∈ l ∧ picks yes no x = true) := by
    intro l
    induction l with
    | nil => intro o ho; exact ⟨ho, fun x => by simp⟩
    | cons y t ih =>
      intro o ho
      rw [List.foldl_cons]
      cases hp : picks yes no y
      · obtain ⟨h1, h2⟩ := ih o ho
        refine ⟨by simpa using h1, fun x => ?_⟩
        rw [if_neg (by simp), h2, List.mem_cons]
        constructor
        · rintro (h | ⟨h, h'⟩)
          · exact Or.inl h
          · exact Or.inr ⟨Or.inr h, h'⟩
        · rintro (h | ⟨rfl | h, h'⟩)
          · exact Or.inl h
          · rw [hp] at h'; cases h'
          · exact Or.inr ⟨h, h'⟩
      · obtain ⟨h3, h4⟩ := insL_rise y o ho
        obtain ⟨h1, h2⟩ := ih _ h3
        refine ⟨by simpa using h1, fun x => ?_⟩
        rw [if_pos rfl, h2, h4, List.mem_cons]
        constructor
        · rintro ((rfl | h) | ⟨h, h'⟩)
          · exact Or.inr ⟨Or.inl rfl, hp⟩
          · exact Or.inl h
          · exact Or.inr ⟨Or.inr h, h'⟩
        · rintro (h | ⟨rfl | h, h'⟩)
          · exact Or.inl (Or.inr h)
          · exact Or.inl (Or.inl rfl)
          · exact Or.inr ⟨h, h'⟩
  obtain ⟨h1, h2⟩ := this l [] List.Pairwise.nil
  exact ⟨h1, fun x => by rw [show refPickL yes no l = l.foldl _ [] from rfl, h2]; simp⟩
theorem OwnS.mono {w : World} {b b' : Nat} {v : Value} {l : List ByteArray} (h : OwnS w b v l) (hb : b' ≤ b) : OwnS w b' v l := by
  obtain ⟨h1, h2 | ⟨g, cap, cur, h3, h4, h5⟩⟩ := h
  · exact ⟨h1, .inl h2⟩
  · exact ⟨h1, .inr ⟨g, cap, cur, h3, Nat.le_trans hb h4, h5⟩⟩
theorem OwnS.below {w w' : World} {b : Nat} {v : Value} {l : List ByteArray} (h : OwnS w b v l) (hb : Below w.heap.size w w') : OwnS w' b v l := by
  obtain ⟨h1, h2 | ⟨g, cap, cur, h3, h4, h5, h6⟩⟩ := h
  · exact ⟨h1, .inl h2⟩
  · refine ⟨h1, .inr ⟨g, cap, cur, h3, h4, ?_, h6⟩⟩
    rw [hb.block g (Array.getElem?_eq_some_iff.1 h5).1]
    exact h5

set_option maxRecDepth 100000 in
set_option maxHeartbeats 1000000 in
theorem refPick_any (a ay an : Option Addr) (cap cy cn : Nat) (l yes no : List ByteArray) (w : World) (hl : l.length ≤ 900) (hly : yes.length ≤ 1000) (hln : no.length ≤ 1000) (hz : ∀ x ∈ l, x.size ≤ 4294967200) (hzy : ∀ x ∈ yes, x.size ≤ 4294967200) (hzn : ∀ x ∈ no, x.size ≤ 4294967200)
    (hat : StrsAt w a l) (hay : StrsAt w ay yes) (han : StrsAt w an no) :
    Calls Tryd.prog 23 #[.slice a l.length cap, .slice ay yes.length cy, .slice an no.length cn] w (POwn (refPickL yes no l) w) := by
  have Hz := Lib.hid (And.intro hz (And.intro hzy hzn))
  have Hat := Lib.hid (And.intro hat (And.intro hay han))
  clear hat hay han hz hzy hzn
  go_enter Tryd.func23, Tryd.ntmps23
  go_wp2_with fail
  go_loopw [7, 13] (fun v i wr => ∃ (k : Nat) (v' : Value), v = v' ∧ i = .int .i64 k ∧ k ≤ l.length ∧ Hid ((refPickL yes no (l.take k)).length ≤ k) ∧ Hid (OwnS wr w.heap.size v' (refPickL yes no (l.take k))) ∧ Below w.heap.size w wr) (fun _ i _ => l.length - (intOf i).toNat)
  case atStart =>
    refine ⟨0, _, rfl, rfl, Nat.zero_le _, Lib.hid (Nat.zero_le _), Lib.hid ?_, (Below.refl _ w).alloc (Nat.le_refl _) _⟩
    exact World.ownsRow_lit (base := w.heap.size) (size := 1) w #[] 0 (Nat.le_refl _) (by decide) rfl
  case round =>
    obtain ⟨k, v, hv, rfl, hk, hlen, hown, hb⟩ := hrel
    have hv := hv.symm
    subst hv
    by_cases hlt : k < l.length
    · obtain ⟨b, off, hbb, hc⟩ := (Hat.out.1.below hb).at hlt
      subst hbb
      have Hx : Hid (l[k].size ≤ 4294967200) := Lib.hid (Hz.out.1 _ (List.getElem_mem hlt))
      have Hs := Lib.hid (refPickL_succ yes no l hlt)
      generalize l[k] = x at hc Hx Hs
      go_wp2_with fail
      refine (refSome_any ay cy yes x _ (by omega) Hz.out.2.1 Hx.out (Hat.out.2.1.below hb)).mono ?_
      rintro e w1 ⟨rfl, hb1⟩
      have hb01 : Below w.heap.size w w1 := hb.trans (hb1.mono hb.size)
      have Hown1 := Lib.hid (hown.out.below hb1)
      cases hy : ganyOf yes x
      · have Hn : Hid (refPickL yes no (l.take (k + 1)) = refPickL yes no (l.take k)) := Lib.hid (by rw [Hs.out, picks, hy]; rfl)
        clear hy
        go_wp2_with fail
        go_roundw
        case rel => exact ⟨k + 1, _, rfl, by go_num, by omega, Lib.hid (by have := hlen.out; rw [Hn.out]; omega), Lib.hid (by rw [Hn.out]; exact Hown1.out), hb01⟩
        case measure => simp only [intOf]; omega
      go_wp2_with fail
      refine (refSome_any an cn no x _ (by omega) Hz.out.2.2 Hx.out (Hat.out.2.2.below hb01)).mono ?_
      rintro e w2 ⟨rfl, hb2⟩
      have hb02 : Below w.heap.size w w2 := hb01.trans (hb2.mono hb01.size)
      have Hown2 := Lib.hid (Hown1.out.below hb2)
      cases hn : ganyOf no x
      · have Hn : Hid (refPickL yes no (l.take (k + 1)) = insL x false (refPickL yes no (l.take k))) := Lib.hid (by rw [Hs.out, picks, hy, hn]; rfl)
        clear hy hn
        have hl2 := hlen.out
        obtain ⟨a2, cap2, hv2, hat2, -⟩ := Hown2.out.strsAt
        have hv2 := hv2.symm
        subst hv2
        go_wp2_with fail
        refine (insert_any a2 cap2 _ x _ (by omega) hat2).mono ?_
        rintro e w3 ⟨v3, rfl, hown3, hb3⟩
        have hb03 : Below w.heap.size w w3 := hb02.trans (hb3.mono hb02.size)
        have Hown3 := Lib.hid (hown3.mono hb02.size)
        clear hown3 hat2
        go_wp2_with fail
        go_roundw
        case rel => exact ⟨k + 1, _, rfl, by go_num, by omega, Lib.hid (by rw [Hn.out]; exact Nat.le_trans (insL_len _ _ _) (by omega)), Lib.hid (by rw [Hn.out]; exact Hown3.out), hb03⟩
        case measure => simp only [intOf]; omega
      · have Hn : Hid (refPickL yes no (l.take (k + 1)) = refPickL yes no (l.take k)) := Lib.hid (by rw [Hs.out, picks, hy, hn]; rfl)
        clear hy hn
        go_wp2_with fail
        go_roundw
        case rel => exact ⟨k + 1, _, rfl, by go_num, by omega, Lib.hid (by have := hlen.out; rw [Hn.out]; omega), Lib.hid (by rw [Hn.out]; exact Hown2.out), hb02⟩
        case measure => simp only [intOf]; omega
    · have Hr : Hid (refPickL yes no (l.take k) = refPickL yes no l) := Lib.hid (by rw [List.take_of_length_le (by omega)])
      go_wp2_with fail
      go_ret
      exact ⟨_, rfl, by have := hown.out; rwa [Hr.out] at this, hb⟩
end Go.Proofs.YtabobdmgjmgifaaDoor
