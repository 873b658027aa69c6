/-
  The walk of globs.Pick: sorted, without doubles, what one of some patterns matches and none of others.
-/
import Derived.Test.YtabobdmgjmgifaaDoorRefPick
import Derived.Test.YtabobdmgjmgifaaDoorInsert
import Derived.Test.YtabobdmgjmgifaaDoorCompact
import Derived.Lib.OwnBridge
import Derived.Lib.RowBridge
import Derived.Shelf.GgClosure.Gives
namespace Go.Proofs.YtabobdmgjmgifaaDoor
open Go Go.RowKit

theorem own_below {w w' : World} {b : Nat} {e : TypeId} {v : Value} {n : Nat} {xs : List Value} (h : w.ownsRow b e 1 v n xs) (hb : Below w.heap.size w w') : w'.ownsRow b e 1 v n xs := by
  obtain ⟨h1, h2 | ⟨g, cap, cur, h3, h4, h5, h6⟩⟩ := h
  · exact ⟨h1, .inl h2⟩
  · refine ⟨h1, .inr ⟨g, cap, cur, h3, h4, ?_, h6⟩⟩
    rw [hb.block g (Array.getElem?_eq_some_iff.1 h5).1]
    exact h5

set_option maxRecDepth 100000 in
set_option maxHeartbeats 1000000 in
theorem pick_any (a ay an : Option Addr) (cap cy cn : Nat) (l yes no : List ByteArray) (w : World) (hl : l.length ≤ 900) (hly : yes.length ≤ 1000) (hln : no.length ≤ 1000) (hz : ∀ x ∈ l, x.size ≤ 4294967200) (hzy : ∀ x ∈ yes, x.size ≤ 4294967200) (hzn : ∀ x ∈ no, x.size ≤ 4294967200)
    (hat : StrsAt w a l) (hay : StrsAt w ay yes) (han : StrsAt w an no) (hw : Std w) :
    Calls Tryd.prog 22 #[.slice a l.length cap, .slice ay yes.length cy, .slice an no.length cn] w (POwn (refPickL yes no l) w) := by
  obtain ⟨i0, hi, hz0, hz1, hz2⟩ := info_parts infoStr
  have Hz := Lib.hid (And.intro hz (And.intro hzy hzn))
  have Hat := Lib.hid (And.intro hat (And.intro hay han))
  clear hat hay han hz hzy hzn
  go_enter Tryd.func22, Tryd.ntmps22
  go_wp2_with fail
  go_loopw [7, 12] (fun v i wr => ∃ (k : Nat) (v' : Value), v = v' ∧ i = .int .i64 k ∧ k ≤ l.length ∧ Hid (((l.take k).filter (picks yes no)).length ≤ k) ∧ Hid (OwnS wr w.heap.size v' ((l.take k).filter (picks yes no))) ∧ Below w.heap.size w wr) (fun _ i _ => l.length - (intOf i).toNat)
  case atStart =>
    exact ⟨0, _, rfl, rfl, Nat.zero_le _, Lib.hid (Nat.zero_le _), Lib.hid ⟨rfl, .inl ⟨rfl, rfl⟩⟩, Below.refl _ _⟩
  case round =>
    obtain ⟨k, v, hv, rfl, hk, hlen, hown, hb⟩ := hrel
    have hv := hv.symm
    subst hv
    by_cases hlt : k < l.length
    · obtain ⟨b, off, hbb, hc⟩ := (Hat.out.1.below hb).at hlt
      subst hbb
      have Hx : Hid (l[k].size ≤ 4294967200) := Lib.hid (Hz.out.1 _ (List.getElem_mem hlt))
      have Hs : Hid ((l.take (k + 1)).filter (picks yes no) = (l.take k).filter (picks yes no) ++ [l[k]].filter (picks yes no)) := Lib.hid (by rw [List.take_add_one, List.getElem?_eq_getElem hlt, Option.toList_some, List.filter_append])
      generalize l[k] = x at hc Hx Hs
      go_wp2_with fail
      refine (anyOf_any ay cy yes x _ (by omega) (fun y hy => by have := Hz.out.2.1 y hy; omega) (by have := Hx.out; omega) (hw.below hb) (Hat.out.2.1.below hb)).mono ?_
      rintro e w1 ⟨rfl, hb1⟩
      have hb01 : Below w.heap.size w w1 := hb.trans (hb1.mono hb.size)
      have Hown1 := Lib.hid (hown.out.below hb1)
      cases hy : ganyOf yes x
      · have Hn : Hid ((l.take (k + 1)).filter (picks yes no) = (l.take k).filter (picks yes no)) := Lib.hid (by rw [Hs.out]; simp [picks, hy])
        clear hy
        go_wp2_with fail
        go_roundw
        case rel => exact ⟨k + 1, _, rfl, by go_num, by omega, Lib.hid (by have := hlen.out; rw [Hn.out]; omega), Lib.hid (by rw [Hn.out]; exact Hown1.out), hb01⟩
        case measure => simp only [intOf]; omega
      go_wp2_with fail
      refine (anyOf_any an cn no x _ (by omega) (fun y hy => by have := Hz.out.2.2 y hy; omega) (by have := Hx.out; omega) (hw.below hb01) (Hat.out.2.2.below hb01)).mono ?_
      rintro e w2 ⟨rfl, hb2⟩
      have hb02 : Below w.heap.size w w2 := hb01.trans (hb2.mono hb01.size)
      have Hown2 := Lib.hid (Hown1.out.below hb2)
      cases hn : ganyOf no x
      · have Hn : Hid ((l.take (k + 1)).filter (picks yes no) = (l.take k).filter (picks yes no) ++ [x]) := Lib.hid (by rw [Hs.out]; simp [picks, hy, hn])
        clear hy hn
        have hl2 := hlen.out
        generalize (l.take k).filter (picks yes no) = o at *
        go_wp2_with (at_builtin; refine wpList_append_own _ rfl _ _ 28 rfl w.heap.size 9 i0 (.string ByteArray.empty) 1 16 Tryd.underlying28 hi hz0 hz1 hz2 rfl (by decide) _ _ _ rfl (Hown2.out.alloc _) ⟨w2.heap.size, 0, none⟩ 1 1 [.string x] rfl rfl (lit_cell _ _ _) ?c2 ?c3 ?c4 ?c5 ?_)
        case c2 => simp [Value.oneCell']
        case c3 => unfold maxLen; omega
        case c4 => omega
        case c5 => have := hb02.size; simp; omega
        intro v3 w3 hown3 hgrow3 _
        have Hown3 : Hid (OwnS w3 w.heap.size v3 (o ++ [x])) := Lib.hid (by unfold OwnS; simpa [List.length_append, List.map_append, Nat.add_assoc] using hown3)
        have hb03 : Below w.heap.size w w3 := (hb02.alloc hb02.size _).grown hgrow3 (by have := hb02.size; simp; omega) (fun g hg => (Hown2.out.lt g hg).1)
        clear hown3 hgrow3
        go_wp2_with fail
        go_roundw
        case rel => exact ⟨k + 1, _, rfl, by go_num, by omega, Lib.hid (by rw [Hn.out, List.length_append, List.length_singleton]; omega), Lib.hid (by rw [Hn.out]; exact Hown3.out), hb03⟩
        case measure => simp only [intOf]; omega
      · have Hn : Hid ((l.take (k + 1)).filter (picks yes no) = (l.take k).filter (picks yes no)) := Lib.hid (by rw [Hs.out]; simp [picks, hy, hn])
        clear hy hn
        go_wp2_with fail
        go_roundw
        case rel => exact ⟨k + 1, _, rfl, by go_num, by omega, Lib.hid (by have := hlen.out; rw [Hn.out]; omega), Lib.hid (by rw [Hn.out]; exact Hown2.out), hb02⟩
        case measure => simp only [intOf]; omega
    · have Hr : Hid ((l.take k).filter (picks yes no) = l.filter (picks yes no)) := Lib.hid (by rw [List.take_of_length_le (by omega)])
      rw [Hr.out] at hown hlen
      have Hp : Hid (∀ r : List ByteArray, r.map (·.data.toList) = Lib.compact (((l.filter (picks yes no)).map (·.data.toList)).mergeSort fun x y => decide (x ≤ y)) → r = refPickL yes no l) := Lib.hid (fun r hr => by
        obtain ⟨h1, h2⟩ := compact_rise ((l.filter (picks yes no)).map (·.data.toList))
        obtain ⟨h3, h4⟩ := refPickL_rise yes no l
        rw [← hr] at h1 h2
        refine rise_ext ?_ h3 (fun x => ?_)
        · unfold Rise
          rw [List.pairwise_map] at h1
          exact h1.imp (fun h => by rw [Lib.toList_data, Lib.toList_data]; exact h)
        · rw [h4, ← List.mem_filter]
          have := h2 x.data.toList
          rw [List.mem_map, List.mem_map] at this
          constructor
          · intro h
            obtain ⟨y, hy, e⟩ := this.1 ⟨x, h, rfl⟩
            rw [← bytes_ext e]; exact hy
          · intro h
            obtain ⟨y, hy, e⟩ := this.2 ⟨x, h, rfl⟩
            rw [← bytes_ext e]; exact hy)
      generalize l.filter (picks yes no) = o at *
      have hlo := hlen.out
      by_cases hv0 : v = .slice none 0 0
      · subst hv0
        obtain rfl : o = [] := by
          obtain ⟨h1, ⟨-, h2⟩ | ⟨g, cap, cur, h2, -⟩⟩ := hown.out
          · exact List.length_eq_zero_iff.1 h2
          · cases h2
        go_wp2_with fail
        refine (Tryd.slices_Sort_string_none none 0 _).mono ?_
        rintro e w1 ⟨rfl, rfl⟩
        go_wp2_with fail
        refine (Tryd.slices_Compact_string_empty none 0 _).mono ?_
        rintro e w2 ⟨rfl, rfl⟩
        go_wp2_with fail
        go_ret
        exact ⟨_, rfl, by rw [← Hp.out [] (by simp [Lib.compact, Lib.compactUpTo])]; exact hown.out, hb⟩
      · obtain ⟨g, cp, rfl, hbg, hg, hnc, hmx, -, hH⟩ := Lib.holds_of_ownsRow (enc := encStr) (zs := o.map (·.data.toList)) (by rw [Lib.map_encStr]; exact hown.out) hv0
        have HS := Tryd.slices_Sort_string g 0 cp (o.map (·.data.toList)) _ hH hg (by rw [List.length_map]; omega)
        rw [List.length_map] at HS
        have HSh := Lib.hid HS
        have HHh := Lib.hid hH
        clear HS hH
        go_wp2_with fail
        refine HSh.out.mono ?_
        rintro e w1 ⟨rfl, n1, os, rfl⟩
        have hSl : ((o.map (·.data.toList)).mergeSort fun x y => decide (x ≤ y)).length = o.length := by rw [List.length_mergeSort, List.length_map]
        have hown' : wr.ownsRow w.heap.size 9 1 (.slice (some ⟨g, 0, none⟩) o.length cp) o.length ((o.map (·.data.toList)).map encStr) := by rw [Lib.map_encStr]; exact hown.out
        generalize ((o.map (·.data.toList)).mergeSort fun x y => decide (x ≤ y)) = S at *
        have h1 := Lib.ownsRow_putRow (q := n1) hown' hSl (Nat.le_refl _)
        have hb1 : Below w.heap.size w (Sort.putRow encStr (Sort.ahead wr n1) g 0 S.toArray) := Lib.below_putRow hb hbg
        have hgr := below_grown (Sort.putRow encStr (Sort.ahead wr n1) g 0 S.toArray) 0 os
        have hb2 : Below w.heap.size w (Sort.grow (Sort.putRow encStr (Sort.ahead wr n1) g 0 S.toArray) os) := hb1.trans (hgr.mono hb1.size)
        have h2 := own_below h1 hgr
        rw [List.take_of_length_le (by omega)] at h2
        have hH2 := Sort.holds_grow encStr _ os g 0 _ (by rw [Sort.size_putRow]; exact hg) (Sort.holds_putRow encStr (Sort.ahead wr n1) g 0 _ S.toArray (Sort.holds_ahead encStr wr n1 g 0 _ HHh.out) (by simp [hSl]))
        have HC := Tryd.slices_Compact_string g 0 cp S _ hH2 (by omega) (by omega)
        rw [hSl] at HC
        have HCh := Lib.hid HC
        have H2 := Lib.hid h2
        have Hb2 := Lib.hid hb2
        clear HC hH2 h1 h2 hgr hb1 hb2 hown'
        go_wp2_with fail
        refine HCh.out.mono ?_
        rintro e w2 ⟨rfl, q, rfl⟩
        have hcl := Lib.compact_length_le S
        have h3 := Lib.ownsRow_putRow (q := q) (k := (Lib.compact S).length) (ys := Lib.compact S ++ List.replicate (S.length - (Lib.compact S).length) []) H2.out (by rw [List.length_append, List.length_replicate]; omega) (by omega)
        rw [List.take_left] at h3
        have hb3 := Lib.below_putRow (q := q) (enc := encStr) (d := (Lib.compact S ++ List.replicate (S.length - (Lib.compact S).length) []).toArray) Hb2.out hbg
        rw [hSl] at h3 hb3
        have H3 := Lib.hid h3
        have Hb3 := Lib.hid hb3
        clear h3 hb3
        go_wp2_with fail
        go_ret
        refine ⟨_, rfl, ?_, Hb3.out⟩
        have hr := Hp.out ((Lib.compact S).map fun l => ⟨l.toArray⟩) (by rw [List.map_map]; simp [Function.comp_def])
        rw [← hr]
        have := H3.out
        unfold OwnS
        rw [List.length_map, List.map_map]
        exact this
end Go.Proofs.YtabobdmgjmgifaaDoor
