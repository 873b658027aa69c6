/-
  The walk of the reference's Match: does a pattern match a path?
-/
import Derived.Test.YtabobdmgjmgifaaDoorRefRows
import Derived.Test.YtabobdmgjmgifaaDoorRefGMay
import Derived.Test.YtabobdmgjmgifaaDoorMatch
namespace Go.Proofs.YtabobdmgjmgifaaDoor
open Go Go.RowKit

theorem gmatch_no1 {p s : Bs} (h : gmay p = false) : gmatch p s = false := by unfold gmatch; rw [h]; rfl
theorem gmatch_no2 {p s : Bs} (h : pathOk s = false) : gmatch p s = false := by unfold gmatch; rw [h, Bool.and_false]; rfl
theorem gmatch_rows {p s : Bs} {l m : List ByteArray} (h1 : gmay p = true) (h2 : pathOk s = true) (hl : bytesOf l = cutAt 47 p) (hm : bytesOf m = cutAt 47 s) : rowM (bytesOf l) (bytesOf m) l.length m.length = gmatch p s := by
  unfold gmatch rowM
  rw [h1, h2, if_pos (len_bytes l).symm, ← len_bytes m, List.take_length, hl, hm]; rfl

set_option maxRecDepth 100000 in
set_option maxHeartbeats 4000000 in
theorem refMatch_any (p s : ByteArray) (w : World) (hp : p.size ≤ 4294967200) (hs : s.size ≤ 4294967200) :
    Calls Tryd.prog 12 #[.string p, .string s] w (PBelow (gmatch p.data.toList s.data.toList) w) := by
  go_enter Tryd.func12, Tryd.ntmps12
  go_wp2_with fail
  refine (refGmay_any p _ (by omega)).mono ?_
  rintro e w1 ⟨rfl, hb1⟩
  cases hgm : gmay p.data.toList
  · have H := Lib.hid (gmatch_no1 (s := s.data.toList) hgm)
    clear hgm
    go_wp2_with fail
    go_ret
    exact ⟨ret_bool H.out.symm, hb1⟩
  have Hgm := Lib.hid hgm
  clear hgm
  go_wp2_with fail
  refine (refMay_any s _ (by omega)).mono ?_
  rintro e w2 ⟨rfl, hb2⟩
  have hb12 : Below w.heap.size w w2 := hb1.trans (hb2.mono hb1.size)
  cases hpo : pathOk s.data.toList
  · have H := Lib.hid (gmatch_no2 (p := p.data.toList) hpo)
    clear hpo
    go_wp2_with fail
    go_ret
    exact ⟨ret_bool H.out.symm, hb12⟩
  have Hpo := Lib.hid hpo
  clear hpo hb1 hb2
  go_wp2_with fail
  refine (refParts_any p _ (by omega)).mono ?_
  rintro e w3 ⟨l, v, rfl, hcut, hown, hb3⟩
  have Hcut := Lib.hid hcut
  obtain ⟨al, cl, rfl, hatl, -⟩ := hown.strsAt
  have hl16 : l.length ≤ 16 := by have := congrArg List.length hcut; rw [List.length_map] at this; have h2 := gmay_len Hgm.out; omega
  have hl0 : 0 < l.length := by have := congrArg List.length hcut; rw [List.length_map, cutAt_length] at this; omega
  have Hlsz : Hid (∀ x ∈ l, x.size ≤ p.size) := Lib.hid (fun x hx => by
    have := cutAt_len_le 47 p.data.toList x.data.toList (by rw [← hcut]; exact List.mem_map_of_mem hx)
    rw [len_data, len_data] at this; exact this)
  clear hcut hown
  have hb13 : Below w.heap.size w w3 := hb12.trans (hb3.mono hb12.size)
  clear hb12 hb3
  go_wp2_with fail
  refine (refParts_any s _ (by omega)).mono ?_
  rintro e w4 ⟨m, v, rfl, hcut, hown, hb4⟩
  have Hcut4 := Lib.hid hcut
  obtain ⟨am, cm, rfl, hatm, -⟩ := hown.strsAt
  have hm16 : m.length ≤ 16 := by have := congrArg List.length hcut; rw [List.length_map] at this; have h2 := pathOk_len Hpo.out; omega
  have Hmsz : Hid (∀ x ∈ m, x.size ≤ s.size) := Lib.hid (fun x hx => by
    have := cutAt_len_le 47 s.data.toList x.data.toList (by rw [← hcut]; exact List.mem_map_of_mem hx)
    rw [len_data, len_data] at this; exact this)
  clear hcut hown
  have hat0 : StrsAt w4 al l := hatl.below hb4
  have hb : Below w.heap.size w w4 := hb13.trans (hb4.mono hb13.size)
  have Hfin := Lib.hid (gmatch_rows Hgm.out Hpo.out Hcut.out Hcut4.out)
  clear hb13 hb4 hatl
  go_wp2_with (at_make; refine wpList_make_bools rfl _ _ rfl w4.heap.size (m.length + 1) (by omega) rfl rfl (Nat.le_refl _) ?_; intro w5 hown5 hgr5 hz5; have c0 := hown5.cell (j := 0) (by omega); have f0 := hown5.frozen 0; have Hown5 := Lib.hid hown5; have Hz5 := Lib.hid hz5; clear hown5 hz5)
  have hown6 := (Hown5.out.store 0 true).congr (h' := rowM (bytesOf l) (bytesOf m) 0) (fun j hj => by
    rw [rowM_zero (by rw [len_bytes]; exact hl0) (by rw [len_bytes]; omega)]
    by_cases h : j = 0 <;> simp [h])
  have hb6 : Below w4.heap.size w4 (w5.setCell ⟨w4.heap.size, 0, none⟩ (.bool true)) := ((Below.refl _ w4).grown hgr5 (Nat.le_refl _) (fun k h => by cases h)).setCell (p := ⟨w4.heap.size, 0, none⟩) (Nat.le_refl _) _
  clear c0 f0 Hown5
  go_loopw [7, 8, 9, 10, 11, 32] (fun v _ _ _ _ i wr => ∃ (k g : Nat), v = .slice (some ⟨g, 0, none⟩) (m.length + 1) (m.length + 1) ∧ i = .int .i64 k ∧ k ≤ l.length ∧ OwnF wr w4.heap.size g (m.length + 1) (rowM (bytesOf l) (bytesOf m) k) ∧ Below w4.heap.size w4 wr) (fun _ _ _ _ _ i _ => l.length - (intOf i).toNat)
  case atStart => exact ⟨0, _, rfl, rfl, Nat.zero_le _, hown6, hb6⟩
  case round =>
    clear hown6 hb6 hgr5 Hz5
    obtain ⟨i, g, rfl, rfl, hi, hown, hbr⟩ := hrel
    by_cases hlt : i < l.length
    · have Hi := Lib.hid (get_bytes hlt)
      obtain ⟨b1, o1, rfl, hcl⟩ := (hat0.below hbr).at hlt
      have Hown := Lib.hid hown
      clear hown
      go_wp2_with (at_make; refine wpList_make_bools rfl _ _ rfl w4.heap.size (m.length + 1) (by omega) rfl rfl hbr.size ?_; intro wn hown2 hgr2 hz2; have Hown2 := Lib.hid hown2; have Hz2 := Lib.hid hz2; clear hown2 hz2)
      have hb2 : Below w4.heap.size w4 wn := hbr.grown hgr2 hbr.size (fun k h => by cases h)
      have hown' := Hown.out.grown hgr2
      obtain ⟨g2, hg2⟩ : ∃ g2, g2 = wr.heap.size := ⟨_, rfl⟩
      have hne : g ≠ g2 := by have := Hown.out.lt_size; omega
      have hown2 := Hown2.out
      rw [← hg2] at hown2 ⊢
      have Hg2 := Lib.hid hg2
      clear hg2 Hown2 Hz2 Hown hgr2 hbr hcl
      go_loopw [11] (fun kk wq => ∃ k : Nat, kk = .int .i64 k ∧ k ≤ m.length + 1 ∧ OwnF wq w4.heap.size g (m.length + 1) (rowM (bytesOf l) (bytesOf m) i) ∧ OwnF wq w4.heap.size g2 (m.length + 1) (upto (rowM (bytesOf l) (bytesOf m) (i + 1)) k) ∧ Below w4.heap.size w4 wq) (fun kk _ => m.length + 1 - (intOf kk).toNat)
      case atStart => exact ⟨0, rfl, Nat.zero_le _, hown', hown2.congr (fun j hj => by unfold upto; simp), hb2⟩
      case round =>
        clear hown' hown2 hb2
        obtain ⟨k, rfl, hk, hoa, hon, hbq⟩ := hrel
        have Hoa := Lib.hid hoa
        have Hon := Lib.hid hon
        clear hoa hon
        by_cases hkl : k < m.length + 1
        · have hfk := Hon.out.frozen k
          have hck := Hon.out.cell hkl
          cases hst : (l[i].toList == [42, 42])
          · have Hst : Hid (l[i].data.toList ≠ [42, 42]) := Lib.hid (by rw [← Lib.toList_data]; exact beq_eq_false_iff_ne.1 hst)
            rcases Nat.eq_zero_or_pos k with rfl | hk0
            · have hd0 : decide ((0 : Int) < 0) = false := by decide
              have Hf := Lib.hid (rowM_chr_zero (ns := bytesOf m) Hi.out Hst.out)
              go_wp2_with fail
              go_roundw
              case rel => exact ⟨1, by go_num, by omega, Hoa.out.other hne _ _, (Hon.out.store _ _).congr (fun j _ => upto_set (Hf.out.symm) j), hbq.setCell (p := ⟨g2, _, none⟩) Hon.out.base_le _⟩
              case measure => simp only [intOf]; omega
            · obtain ⟨q, rfl⟩ : ∃ q, k = q + 1 := ⟨k - 1, by omega⟩
              have hq : q < m.length := by omega
              have Hf := Lib.hid (rowM_chr_succ (ns := bytesOf m) Hi.out Hst.out (get_bytes hq))
              have hca := Hoa.out.cell (j := q) (by omega)
              cases hA : rowM (bytesOf l) (bytesOf m) i q
              · have HA := Lib.hid hA
                rw [hA] at hca
                clear hA
                go_wp2_with fail
                go_roundw
                case rel => exact ⟨q + 1 + 1, by go_num, by omega, Hoa.out.other hne _ _, (Hon.out.store _ _).congr (fun j _ => upto_set (by rw [Hf.out, HA.out]; rfl) j), hbq.setCell (p := ⟨g2, _, none⟩) Hon.out.base_le _⟩
                case measure => simp only [intOf]; omega
              · have HA := Lib.hid hA
                rw [hA] at hca
                clear hA
                obtain ⟨b2, o2, rfl, hcm⟩ := (hatm.below hbq).at hq
                go_wp2_with fail
                refine (refOne_any l[i] m[q] _ (by have := Hlsz.out _ (List.getElem_mem hlt); omega) (by have := Hmsz.out _ (List.getElem_mem hq); omega)).mono ?_
                rintro e wz ⟨rfl, hbz⟩
                have Hoa2 := Lib.hid (Hoa.out.below hbz)
                have Hon2 := Lib.hid (Hon.out.below hbz)
                have hbq2 : Below w4.heap.size w4 wz := hbq.trans (hbz.mono hbq.size)
                have hfk2 := Hon2.out.frozen (q + 1)
                have hck2 := Hon2.out.cell hkl
                clear hfk hck hca hcm hbz hbq
                go_wp2_with fail
                go_roundw
                case rel => exact ⟨q + 1 + 1, by go_num, by omega, Hoa2.out.other hne _ _, (Hon2.out.store _ _).congr (fun j _ => upto_set (by rw [Hf.out, HA.out]; rfl) j), hbq2.setCell (p := ⟨g2, _, none⟩) Hon2.out.base_le _⟩
                case measure => simp only [intOf]; omega
          · have Hst : Hid ((bytesOf l)[i]? = some [42, 42]) := Lib.hid (by rw [Hi.out, ← Lib.toList_data]; exact congrArg some (beq_iff_eq.1 hst))
            by_cases hlast : i + 1 = l.length
            · have hl1 : ((i : Int) == (l.length : Int) - 1) = true := beq_iff_eq.2 (by omega)
              have Hll : Hid (i + 1 = (bytesOf l).length) := Lib.hid (by rw [len_bytes]; exact hlast)
              clear hlast
              rcases Nat.eq_zero_or_pos k with rfl | hk0
              · have hd0 : decide ((0 : Int) < 0) = false := by decide
                have Hf := Lib.hid (rowM_last_zero (ns := bytesOf m) Hst.out Hll.out)
                go_wp2_with fail
                go_roundw
                case rel => exact ⟨1, by go_num, by omega, Hoa.out.other hne _ _, (Hon.out.store _ _).congr (fun j _ => upto_set (Hf.out.symm) j), hbq.setCell (p := ⟨g2, _, none⟩) Hon.out.base_le _⟩
                case measure => simp only [intOf]; omega
              · obtain ⟨q, rfl⟩ : ∃ q, k = q + 1 := ⟨k - 1, by omega⟩
                have hq : q < m.length := by omega
                have Hf := Lib.hid (rowM_last_succ (ns := bytesOf m) Hst.out Hll.out (get_bytes hq))
                have hca := Hoa.out.cell (j := q) (by omega)
                have hcn := Hon.out.cell (j := q) (by omega)
                rw [upto_lt (Nat.lt_succ_self q)] at hcn
                cases hA : rowM (bytesOf l) (bytesOf m) i q
                · have HA := Lib.hid hA
                  rw [hA] at hca
                  clear hA
                  cases hN : rowM (bytesOf l) (bytesOf m) (i + 1) q
                  all_goals
                    have HN := Lib.hid hN
                    rw [hN] at hcn
                    clear hN
                    go_wp2_with fail
                    go_roundw
                    case rel => exact ⟨q + 1 + 1, by go_num, by omega, Hoa.out.other hne _ _, (Hon.out.store _ _).congr (fun j _ => upto_set (by rw [Hf.out, HA.out, HN.out]; rfl) j), hbq.setCell (p := ⟨g2, _, none⟩) Hon.out.base_le _⟩
                    case measure => simp only [intOf]; omega
                · have HA := Lib.hid hA
                  rw [hA] at hca
                  clear hA
                  go_wp2_with fail
                  go_roundw
                  case rel => exact ⟨q + 1 + 1, by go_num, by omega, Hoa.out.other hne _ _, (Hon.out.store _ _).congr (fun j _ => upto_set (by rw [Hf.out, HA.out]; rfl) j), hbq.setCell (p := ⟨g2, _, none⟩) Hon.out.base_le _⟩
                  case measure => simp only [intOf]; omega
            · have hl1 : ((i : Int) == (l.length : Int) - 1) = false := beq_eq_false_iff_ne.2 (by omega)
              have Hll : Hid (i + 1 < (bytesOf l).length) := Lib.hid (by rw [len_bytes]; omega)
              clear hlast
              rcases Nat.eq_zero_or_pos k with rfl | hk0
              · have hd0 : decide ((0 : Int) < 0) = false := by decide
                have Hf := Lib.hid (rowM_stars_zero (ns := bytesOf m) Hst.out Hll.out)
                have hca := Hoa.out.cell hkl
                cases hA : rowM (bytesOf l) (bytesOf m) i 0
                all_goals
                  have HA := Lib.hid hA
                  rw [hA] at hca
                  clear hA
                  go_wp2_with fail
                  go_roundw
                  case rel => exact ⟨1, by go_num, by omega, Hoa.out.other hne _ _, (Hon.out.store _ _).congr (fun j _ => upto_set (by rw [Hf.out, HA.out]) j), hbq.setCell (p := ⟨g2, _, none⟩) Hon.out.base_le _⟩
                  case measure => simp only [intOf]; omega
              · obtain ⟨q, rfl⟩ : ∃ q, k = q + 1 := ⟨k - 1, by omega⟩
                have hq : q < m.length := by omega
                have Hf := Lib.hid (rowM_stars_succ (ns := bytesOf m) Hst.out Hll.out (get_bytes hq))
                have hca := Hoa.out.cell hkl
                have hcn := Hon.out.cell (j := q) (by omega)
                rw [upto_lt (Nat.lt_succ_self q)] at hcn
                cases hA : rowM (bytesOf l) (bytesOf m) i (q + 1)
                · have HA := Lib.hid hA
                  rw [hA] at hca
                  clear hA
                  cases hN : rowM (bytesOf l) (bytesOf m) (i + 1) q
                  all_goals
                    have HN := Lib.hid hN
                    rw [hN] at hcn
                    clear hN
                    go_wp2_with fail
                    go_roundw
                    case rel => exact ⟨q + 1 + 1, by go_num, by omega, Hoa.out.other hne _ _, (Hon.out.store _ _).congr (fun j _ => upto_set (by rw [Hf.out, HA.out, HN.out]; rfl) j), hbq.setCell (p := ⟨g2, _, none⟩) Hon.out.base_le _⟩
                    case measure => simp only [intOf]; omega
                · have HA := Lib.hid hA
                  rw [hA] at hca
                  clear hA
                  go_wp2_with fail
                  go_roundw
                  case rel => exact ⟨q + 1 + 1, by go_num, by omega, Hoa.out.other hne _ _, (Hon.out.store _ _).congr (fun j _ => upto_set (by rw [Hf.out, HA.out]; rfl) j), hbq.setCell (p := ⟨g2, _, none⟩) Hon.out.base_le _⟩
                  case measure => simp only [intOf]; omega
        · obtain rfl : k = m.length + 1 := by omega
          have hgt : ¬ ((m.length : Int) + 1 ≤ m.length) := by omega
          go_wp2_with fail
          go_roundw
          case rel => exact ⟨i + 1, g2, rfl, by go_num, by omega, Hon.out.congr (fun j hj => upto_lt hj), hbq⟩
          case measure => simp only [intOf]; omega
    · obtain rfl : i = l.length := by omega
      have hc := hown.cell (j := m.length) (by omega)
      rw [Hfin.out] at hc
      go_wp2_with fail
      go_ret
      exact ⟨rfl, hb.trans (hbr.mono hb.size)⟩
end Go.Proofs.YtabobdmgjmgifaaDoor
