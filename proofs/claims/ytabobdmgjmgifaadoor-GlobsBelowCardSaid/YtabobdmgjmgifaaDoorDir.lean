/-
  The walks of the reference's Dir and Under: a path's directory; is a path below a directory?
-/
import Derived.Test.YtabobdmgjmgifaaDoorBelowPlain
import Derived.Test.YtabobdmgjmgifaaDoorRefMay
namespace Go.Proofs.YtabobdmgjmgifaaDoor
open Go Go.RowKit

set_option maxRecDepth 100000 in
set_option maxHeartbeats 1000000 in
theorem refDir_any (s : ByteArray) (w : World) (hs : s.size < 4294967281) :
    Calls Tryd.prog 18 #[.string s] w (PStrBelow (dirOf s.data.toList) w) := by
  go_enter Tryd.func18, Tryd.ntmps18
  go_wp2_with fail
  refine (refParts_any s w (by omega)).mono ?_
  rintro e w1 ⟨l, v, rfl, hcut, hown, hb1⟩
  obtain ⟨a, cap, rfl, hat, -⟩ := hown.strsAt
  have hpos : 0 < l.length := by
    have h1 := congrArg List.length hcut
    rw [List.length_map] at h1
    have := cut_pos s.data.toList
    omega
  have hlen : l.length ≤ 4294967297 := by
    have h1 := congrArg List.length hcut
    rw [List.length_map, cutAt_length] at h1
    have h2 := List.count_le_length (a := (47 : UInt8)) (l := s.data.toList)
    rw [len_data] at h2
    omega
  have Hcut := Lib.hid hcut
  clear hcut hown
  go_wp2_with fail
  refine (refMay_any s _ (by omega)).mono ?_
  rintro e w2 ⟨rfl, hb2⟩
  have hb12 : Below w.heap.size w w2 := hb1.trans (hb2.mono hb1.size)
  have hat2 := hat.below hb2
  clear hat
  cases hpo : pathOk s.data.toList
  · have Hd : Hid (dirOf s.data.toList = []) := Lib.hid (by unfold dirOf; rw [hpo]; rfl)
    clear hpo
    go_wp2_with fail
    go_ret
    exact ⟨_, rfl, Hd.out.symm, hb12⟩
  have Hd : Hid (dirOf s.data.toList = glue (l.map (·.data.toList)).dropLast) := Lib.hid (by rw [dirOf_up hpo, Hcut.out])
  clear hpo
  by_cases h1 : l.length = 1
  · have Hd' : Hid (dirOf s.data.toList = []) := Lib.hid (dirOf_one (by rw [← Hcut.out, List.length_map]; exact h1))
    have e1 : ((l.length : Int) == 1) = true := by rw [h1]; rfl
    go_wp2_with fail
    go_ret
    exact ⟨_, rfl, Hd'.out.symm, hb12⟩
  have e1 : ((l.length : Int) == 1) = false := by rw [beq_eq_false_iff_ne]; omega
  have Hsz : Hid (∀ k : Nat, (glue ((l.map (·.data.toList)).take k)).length ≤ s.size) := Lib.hid (fun k => by
    have := glue_len ((l.map (·.data.toList)).take k) ((l.map (·.data.toList)).drop k)
    rw [List.take_append_drop, Hcut.out, glue_cut, len_data] at this
    rwa [Hcut.out])
  obtain ⟨b, off, rfl, hc0⟩ := hat2.at hpos
  rw [Nat.add_zero] at hc0
  go_wp2_with fail
  go_loopw [4, 5] (fun v i wr => ∃ (k : Nat) (o : ByteArray), v = .string o ∧ i = .int .i64 k ∧ 1 ≤ k ∧ k + 1 ≤ l.length ∧ wr = w2 ∧ Hid (o.data.toList = glue ((l.map (·.data.toList)).take k))) (fun _ i _ => l.length - (intOf i).toNat)
  case atStart =>
    refine ⟨1, _, rfl, rfl, Nat.le_refl _, by omega, rfl, Lib.hid ?_⟩
    cases l with
    | nil => simp at hpos
    | cons x l => simp [glue]
  case round =>
    obtain ⟨k, o, rfl, rfl, hk1, hk, rfl, ho⟩ := hrel
    by_cases hlt : k + 1 < l.length
    · obtain ⟨b', off', hbb, hck⟩ := hat2.at (show k < l.length by omega)
      cases hbb
      have hnext : glue ((l.map (·.data.toList)).take (k + 1)) = o.data.toList ++ 47 :: l[k].data.toList := by
        rw [List.take_add_one, List.getElem?_eq_getElem (by rw [List.length_map]; omega), Option.toList_some, glue_snoc _ (by intro h; have := congrArg List.length h; rw [List.length_take, List.length_map, List.length_nil] at this; omega), ho.out, List.getElem_map]
      have hz := Hsz.out (k + 1)
      rw [hnext, List.length_append, List.length_cons, len_data, len_data] at hz
      have Hn : Hid ((o ++ ⟨#[47]⟩ ++ l[k]).data.toList = glue ((l.map (·.data.toList)).take (k + 1))) := Lib.hid (by rw [hnext]; simp)
      clear hnext
      have hz1 : ¬ 9223372036854775807 < o.size + 1 := by omega
      have hz2 : ¬ 9223372036854775807 < o.size + 1 + l[k].size := by omega
      go_wp2_with fail
      go_roundw
      case rel => exact ⟨k + 1, _, rfl, by go_num, by omega, by omega, trivial, Hn⟩
      case measure => simp only [intOf]; omega
    · have Hr : Hid (o.data.toList = dirOf s.data.toList) := Lib.hid (by
        rw [Hd.out, ho.out, List.dropLast_eq_take, List.length_map, show l.length - 1 = k by omega])
      clear Hsz
      go_wp2_with fail
      go_ret
      exact ⟨_, rfl, Hr.out, hb12⟩

set_option maxRecDepth 100000 in
set_option maxHeartbeats 1000000 in
theorem refUnder_any (d : ByteArray) (hd : pathOk d.data.toList = true) (n : Nat) : ∀ (s : ByteArray) (w : World), (cutAt 47 s.data.toList).length ≤ n → s.size < 4294967281 →
    Calls Tryd.prog 17 #[.string s, .string d] w (PBelow (under s.data.toList d.data.toList) w) := by
  induction n with
  | zero => intro s w h; have := cut_pos s.data.toList; omega
  | succ n ih =>
    intro s w hn hs
    have Hih := Lib.hid ih
    clear ih
    have hdne := pathOk_ne hd
    have hde : (d.toList == []) = false := by rw [beq_eq_false_iff_ne, Lib.toList_data]; exact hdne
    have Hdne := Lib.hid hdne
    clear hdne hd
    go_enter Tryd.func17, Tryd.ntmps17
    go_wp2_with fail
    refine (refMay_any s _ (by omega)).mono ?_
    rintro e w1 ⟨rfl, hb1⟩
    cases hpo : pathOk s.data.toList
    · have Hf := Lib.hid (under_bad hpo d.data.toList)
      clear hpo
      go_wp2_with fail
      go_ret
      exact ⟨ret_bool Hf.out.symm, hb1⟩
    have Hpo := Lib.hid hpo
    clear hpo
    go_wp2_with fail
    refine (refDir_any s _ hs).mono ?_
    rintro e w2 ⟨u, rfl, hu, hb2⟩
    have hb12 : Below w.heap.size w w2 := hb1.trans (hb2.mono hb1.size)
    have Hu := Lib.hid hu
    clear hu
    by_cases hl : (cutAt 47 s.data.toList).length = 1
    · obtain rfl : u = ByteArray.empty := bytes_ext (by rw [Hu.out, dirOf_one hl]; rfl)
      have Hf := Lib.hid (under_one hl d.data.toList)
      clear hl
      go_wp2_with fail
      go_ret
      exact ⟨ret_bool Hf.out.symm, hb12⟩
    have hl1 : 1 < (cutAt 47 s.data.toList).length := by have := cut_pos s.data.toList; omega
    have hue : u.toList.isEmpty = false := by
      rw [Lib.toList_data, Hu.out, List.isEmpty_eq_false_iff]; exact dirOf_ne Hpo.out hl1
    have Hup := Lib.hid (under_up Hpo.out hl1 d.data.toList Hdne.out)
    have Hcu : Hid (cutAt 47 u.data.toList = (cutAt 47 s.data.toList).dropLast) := Lib.hid (by rw [Hu.out, dirOf_up Hpo.out, cut_up hl1])
    have Hus : Hid (u.size ≤ s.size) := Lib.hid (by
      have := glue_len (cutAt 47 s.data.toList).dropLast [(cutAt 47 s.data.toList).getLast (cutAt_ne _ _)]
      rw [List.dropLast_concat_getLast, glue_cut, ← dirOf_up Hpo.out, ← Hu.out, len_data, len_data] at this
      exact this)
    cases hud : (u.toList == d.toList)
    · have Hf : Hid (under s.data.toList d.data.toList = under u.data.toList d.data.toList) := Lib.hid (by
        rw [Hup.out, ← Hu.out, ← Lib.toList_data u, ← Lib.toList_data d, hud, Bool.false_or])
      have Hlen : Hid ((cutAt 47 u.data.toList).length ≤ n) := Lib.hid (by rw [Hcu.out, List.length_dropLast]; omega)
      clear hl hl1 hn
      go_wp2_with fail
      refine (Hih.out u _ Hlen.out (by have := Hus.out; omega)).mono ?_
      rintro e w3 ⟨rfl, hb3⟩
      go_wp2_with fail
      go_ret
      exact ⟨ret_bool Hf.out.symm, hb12.trans (hb3.mono hb12.size)⟩
    · have Hf : Hid (under s.data.toList d.data.toList = true) := Lib.hid (by
        rw [Hup.out, ← Hu.out, ← Lib.toList_data u, ← Lib.toList_data d, hud, Bool.true_or])
      clear hl hl1 hn
      go_wp2_with fail
      go_ret
      exact ⟨ret_bool Hf.out.symm, hb12⟩

end Go.Proofs.YtabobdmgjmgifaaDoor
