/-
  The walk of the plain host's sorted.
  The walk of the reference's Texts: a list of texts.
-/
import Derived.Test.YtmmflgbhgjefmaaGreatDoorSortS
import Derived.Test.YtmmflgbhgjefmaaGreatDoorMTexts
import Derived.Test.YtmmflgbhgjefmaaGreatDoorRegionHeld
import Derived.Test.YtmmflgbhgjefmaaGreatDoorMEvK
namespace Go.Proofs.YtmmflgbhgjefmaaGreatDoor
open Go Go.RowKit

def strsV (ts : List ByteArray) : List Vl := ts.map strVl
theorem strsV_take (ts : List ByteArray) (j : Nat) (h : j < ts.length) : valsD (strsV (ts.take (j + 1))) = valsD (strsV (ts.take j)) ++ [valD (strVl ts[j])] := by
  unfold strsV
  rw [List.take_add_one, List.getElem?_eq_getElem h, Option.toList_some, List.map_append, valsD_append]
  simp [valsD]

set_option maxRecDepth 100000 in
set_option maxHeartbeats 4000000 in
theorem sorted_texts (F : Nat → Prop) (n' : Int) (s' : ByteArray) (l : List Vl) (ks : List ByteArray) (ts : List ByteArray) (a : Option Addr) (cap : Nat) (w : World) (hF : ∀ b, F b → b < w.heap.size) (hr : RowAt F w a (valsD [.mk 4 n' s' l ks]))
    (hs : smallV (.mk 4 n' s' l ks)) (ht : textsL (.mk 4 n' s' l ks) = some ts) (hlen : ts.length ≤ 1000) :
    Calls Tryz.prog 207 #[.slice a 1 cap] w (PCall (.ok (.mk 4 0 ⟨#[]⟩ (strsV (sortL ts)) [])) w) := by
  obtain ⟨b, off, a3, c3, a4, c4, rfl, -, hbl, r0, r1, r2, r3, r4, hv1, hv2⟩ := hr.val (j := 0) rfl
  simp only [Nat.zero_mul, Nat.add_zero] at r0 r1 r2 r3 r4
  have hb0 : Below w.heap.size w (w.alloc (.cells #[.int .i64 0, .int .i64 0, .string ⟨#[]⟩, .slice none 0 0, .slice none 0 0] 31)) := (Below.refl _ w).alloc (Nat.le_refl _) _
  have Hc := Lib.hid (texts_any 4 n' s' l ks hs F a3 c3 a4 c4 _ (fun b hb => Nat.lt_of_lt_of_le (hF b hb) hb0.size) (hv1.below hb0) (hv2.below hb0))
  have Hb0 := Lib.hid (And.intro (heap_alloc_new w (.cells #[.int .i64 0, .int .i64 0, .string ⟨#[]⟩, .slice none 0 0, .slice none 0 0] 31)) hb0)
  have Ht := Lib.hid ht
  clear hv1 hv2 hb0 ht hr hF hs
  go_enter Tryz.func207, Tryz.ntmps207
  go_wp2_with fail
  refine Hc.out.mono ?_
  rintro e w1 ⟨hb1, hq⟩
  rw [Ht.out] at hq
  obtain ⟨x, rfl, hown⟩ := hq
  have hz1 : w.heap.size + 1 ≤ w1.heap.size := by have := here (stays Hb0.out.1 hb1); omega
  have hown1 := hown.lower (base' := w.heap.size + 1) (by simp)
  clear hown
  obtain ⟨aT, cT, rfl, -, hcap⟩ := hown1.strsAt
  have Hown := Lib.hid hown1
  have H1 := Lib.hid (And.intro (stays Hb0.out.1 hb1) (Hb0.out.2.trans (hb1.mono Hb0.out.2.size)))
  clear hb1 hown1 Hc Hb0 r0 r1 r2 r3 r4
  go_wp2_with fail
  have Hso := Lib.hid (sort_own Hown.out hlen (by have := here H1.out.1; omega))
  refine Hso.out.mono ?_
  rintro e w2 ⟨rfl, hown2, hb2⟩
  have hsl : (sortL ts).length = ts.length := sortL_len ts
  obtain ⟨aS, cS, hvS, hstS, -⟩ := hown2.strsAt
  rw [hsl] at hvS
  injection hvS with e1 e2 e3
  subst e1 e3
  have hbn : Below w2.heap.size w2 (w2.alloc (.cells #[.int .i64 4, .int .i64 0, .string ⟨#[]⟩, .slice none 0 0, .slice none 0 0] 31)) := (Below.refl _ w2).alloc (Nat.le_refl _) _
  have hsz2 : w.heap.size + 1 ≤ w2.heap.size := by have := here H1.out.1; have := hb2.size; omega
  have Hst := Lib.hid hstS
  have H2 := Lib.hid (And.intro ((hb2.block w.heap.size (by omega)).trans H1.out.1) (H1.out.2.trans (hb2.mono (by omega))))
  have Hvb := Lib.hid (heap_alloc_new w2 (.cells #[.int .i64 4, .int .i64 0, .string ⟨#[]⟩, .slice none 0 0, .slice none 0 0] 31))
  have Hbn := Lib.hid hbn
  clear hown2 hb2 hstS hbn Hso Hown H1
  obtain ⟨i0, hi, hz0, hz1, hz2⟩ := info_parts infoVal
  go_wp2_with fail
  generalize World.alloc _ _ = W at Hvb Hbn ⊢
  go_loopw [24] (fun i wr => ∃ (j : Nat) (v : Value), i = .int .i64 j ∧ j ≤ ts.length ∧ Hid (OwnD (fun b => w2.heap.size + 1 ≤ b) wr (w2.heap.size + 1) 31 5 v (valsD (strsV ((sortL ts).take j)))) ∧ Hid (wr.heap[w2.heap.size]? = some (.cells #[.int .i64 4, .int .i64 0, .string ⟨#[]⟩, v, .slice none 0 0] 31 (0, 0))) ∧ Hid (Below w2.heap.size w2 wr)) (fun i _ => ts.length - (intOf i).toNat)
  case atStart => exact ⟨0, _, rfl, Nat.zero_le _, Lib.hid (by rw [List.take_zero]; exact OwnD.nil _ _ _ _ _), Hvb, Hbn⟩
  case round =>
    obtain ⟨j, v, rfl, hj, hown, hvb, hbw⟩ := hrel
    have hlj : (valsD (strsV ((sortL ts).take j))).length = j := by rw [valsD_len, strsV, List.length_map, List.length_take]; omega
    obtain ⟨aO, cO, hO, hOr⟩ := hown.out.rowAt (fun g hg => by have := (hown.out.block_lt hg).1; omega)
    rw [hlj] at hO
    subst hO
    by_cases hlt : j < ts.length
    · have hlt' : j < (sortL ts).length := by omega
      obtain ⟨bK, oK, hak, hck⟩ := (Hst.out.below hbw.out) j _ (List.getElem?_eq_getElem hlt')
      subst hak
      have Htk := Lib.hid (strsV_take (sortL ts) j hlt')
      generalize (sortL ts)[j] = x at hck Htk
      have Hown := Lib.hid hown.out
      have Hvb1 := Lib.hid hvb.out
      have Hbw := Lib.hid hbw.out
      clear hown hvb hbw hOr
      go_wp2_with fail
      refine wp_region_turns (.s 0 (.s 1 (.s 2 (.h 3 (.h 4 (.h 5 (.s 6 (.h 7 .nil)))))))) 7 (fun W' => W'.heap[w2.heap.size]? = some (.cells #[.int .i64 4, .int .i64 0, .string ⟨#[]⟩, .slice aO j cO, .slice none 0 0] 31 (0, 0))) (by kernel_rfl) (by kernel_rfl) (fun c a d v w h => by cases d <;> exact h) Hvb1.out ?_
      have hbd := (Below.refl wr.heap.size wr).drew
      have Hown2 := Lib.hid (Hown.out.below hbd)
      have Hvb2 := Lib.hid (stays Hvb1.out hbd)
      have Hbw2 := Lib.hid (Hbw.out.trans (hbd.mono Hbw.out.size))
      generalize wr.drew = Wd at Hown2 Hvb2 Hbw2 ⊢
      clear hbd Hown Hvb1 Hbw
      refine turn_steady (.pointer (some ⟨w2.heap.size, 3, none⟩)) rfl rfl (fun W' hS => ?_) ?_
      · go_simp
      try simp only [List.getElem_toArray, List.getElem_cons_succ, List.getElem_cons_zero, Act.put, List.setIfInBounds_toArray, List.set_cons_zero, List.set_cons_succ]
      refine turn_steady (.slice aO j cO) rfl rfl (fun W' hS => ?_) ?_
      · obtain ⟨s0, s1, s2, s3, s4, s5, s6, s7, s8, s9, s10⟩ := five_facts hS
        clear hS
        go_simp
      try simp only [List.getElem_toArray, List.getElem_cons_succ, List.getElem_cons_zero, Act.put, List.setIfInBounds_toArray, List.set_cons_zero, List.set_cons_succ]
      refine turn_steady (.string x) rfl rfl (fun W' hS => ?_) ?_
      · go_simp
      try simp only [List.getElem_toArray, List.getElem_cons_succ, List.getElem_cons_zero, Act.put, List.setIfInBounds_toArray, List.set_cons_zero, List.set_cons_succ]
      refine turn_heavy rfl (fun K3 hK3 => ?_)
      go_wp2_with fail
      refine (str_any x _).mono ?_
      rintro e w3 ⟨rfl, hb3⟩
      have Hown3 := Lib.hid (Hown2.out.below hb3)
      have Hvb3 := Lib.hid (stays Hvb2.out hb3)
      have Hbw3 := Lib.hid (Hbw2.out.trans (hb3.mono Hbw2.out.size))
      clear hb3 Hown2 Hvb2 Hbw2
      unfold strC
      go_wp2_with fail
      refine hK3 _ _ (fun _ => Hvb3.out) ?_
      try simp only [List.getElem_toArray, List.getElem_cons_succ, List.getElem_cons_zero, Act.put, List.setIfInBounds_toArray, List.set_cons_zero, List.set_cons_succ]
      refine turn_heavy rfl (fun K4 hK4 => ?_)
      go_wp2_with fail
      have hbn : Below w3.heap.size w3 (w3.alloc (.cells #[.int .i64 3, .int .i64 0, .string x, .slice none 0 0, .slice none 0 0] 31)) := (Below.refl _ w3).alloc (Nat.le_refl _) _
      have Hown4 := Lib.hid (Hown3.out.below hbn)
      have Hvb4 := Lib.hid (stays Hvb3.out hbn)
      have Hbw4 := Lib.hid (Hbw3.out.trans (hbn.mono Hbw3.out.size))
      have Hnews := Lib.hid (lit_news w3 [.int .i64 3, .int .i64 0, .string x, .slice none 0 0, .slice none 0 0] 31)
      have Hag : Hid (AggAt (fun b => w2.heap.size + 1 ≤ b ∧ (Value.slice aO j cO).ownBlock ≠ some b) (w3.alloc (.cells #[.int .i64 3, .int .i64 0, .string x, .slice none 0 0, .slice none 0 0] 31)) (valD (strVl x)) [.int .i64 3, .int .i64 0, .string x, .slice none 0 0, .slice none 0 0]) := Lib.hid (AggAt.str _ _ x)
      have Hobl : Hid (∀ g, (Value.slice aO j cO).ownBlock = some g → w2.heap.size + 1 ≤ g) := Lib.hid (fun g hg => (Hown3.out.block_lt hg).1)
      have hz4 : w2.heap.size + 1 ≤ w3.heap.size := by have := here Hvb3.out; omega
      refine hK4 _ _ (fun _ => Hvb4.out) ?_
      clear hbn Hown3 Hvb3 Hbw3
      try simp only [List.getElem_toArray, List.getElem_cons_succ, List.getElem_cons_zero, Act.put, List.setIfInBounds_toArray, List.set_cons_zero, List.set_cons_succ]
      refine turn_heavy rfl (fun K5 hK5 => ?_)
      refine (wpList_append_dat rfl _ _ 28 rfl (w2.heap.size + 1) 31 i0 _ 5 80 Tryz.underlying28 hi hz0 hz1 hz2 rfl (by decide) (.slice aO j cO) (fun b => w2.heap.size + 1 ≤ b) (valsD (strsV ((sortL ts).take j))) rfl Hown4.out ⟨w3.heap.size, 0, none⟩ 1 (valD (strVl x)) [.int .i64 3, .int .i64 0, .string x, .slice none 0 0, .slice none 0 0] rfl rfl Hnews.out ?_ Hag.out ?_ ?_ ?_ ?_)
      · simp [Value.oneCell']
      · rw [hlj]; unfold maxLen; omega
      · rw [hlj]; omega
      · first | omega | (simp; omega)
      intro v5 w5 hown5 hgrow5 _
      have Hown5 : Hid (OwnD (fun b => w2.heap.size + 1 ≤ b) w5 (w2.heap.size + 1) 31 5 v5 (valsD (strsV ((sortL ts).take (j + 1))))) := Lib.hid (by rw [Htk.out]; exact hown5)
      have hb5 := grown_below (n := w2.heap.size + 1) hgrow5 Hobl.out (by simp; omega)
      have Hvb5 := Lib.hid ((hb5.block w2.heap.size (by omega)).trans Hvb4.out)
      have Hbw5 : Hid (Below w2.heap.size w2 w5) := Lib.hid (Hbw4.out.trans (hb5.mono (by omega)))
      obtain ⟨aO5, cO5, hO5, -⟩ := Hown5.out.rowAt (fun g hg => by have := (Hown5.out.block_lt hg).1; omega)
      subst hO5
      have Hobl5 : Hid (∀ g, (Value.slice aO5 (valsD (strsV ((sortL ts).take (j + 1)))).length cO5).ownBlock = some g → w2.heap.size + 1 ≤ g) := Lib.hid (fun g hg => (Hown5.out.block_lt hg).1)
      clear hown5 hgrow5 Hown4 Hvb4 Hbw4 Hnews Hag Hobl hb5
      go_wp2_with fail
      refine hK5 _ _ (fun _ => Hvb5.out) ?_
      try simp only [List.getElem_toArray, List.getElem_cons_succ, List.getElem_cons_zero, Act.put, List.setIfInBounds_toArray, List.set_cons_zero, List.set_cons_succ]
      refine turn_steady (.pointer (some ⟨w2.heap.size, 3, none⟩)) rfl rfl (fun W' hS => ?_) ?_
      · go_simp
      try simp only [List.getElem_toArray, List.getElem_cons_succ, List.getElem_cons_zero, Act.put, List.setIfInBounds_toArray, List.set_cons_zero, List.set_cons_succ]
      generalize (valsD (strsV ((sortL ts).take (j + 1)))).length = n5 at Hown5 Hobl5 ⊢
      obtain ⟨p0, p1, p2, p3, p4, p5, p6, p7, p8, p9, p10⟩ := five_facts Hvb5.out
      refine turn_heavy rfl (fun K7 hK7 => ?_)
      go_wp2_with fail
      have Hvb6 : Hid ((w5.setCell ⟨w2.heap.size, 3, none⟩ (.slice aO5 n5 cO5)).heap[w2.heap.size]? = some (.cells #[.int .i64 4, .int .i64 0, .string ⟨#[]⟩, .slice aO5 n5 cO5, .slice none 0 0] 31 (0, 0))) := Lib.hid (by rw [set_same Hvb5.out 3]; rfl)
      have Hown6 := Lib.hid (Hown5.out.keep (w' := w5.setCell ⟨w2.heap.size, 3, none⟩ (.slice aO5 n5 cO5)) (fun b hb hFb => set_other (by
        rcases hFb with h | h
        · have : w2.heap.size + 1 ≤ b := h
          omega
        · have := Hobl5.out b h
          omega) 3 _) (by simp))
      have Hbw6 := Lib.hid (Hbw5.out.setCell (p := ⟨w2.heap.size, 3, none⟩) (Nat.le_refl _) (.slice aO5 n5 cO5))
      refine hK7 _ _ (fun h => absurd rfl h) ?_
      generalize World.setCell _ _ _ = W6 at Hvb6 Hown6 Hbw6 ⊢
      clear p0 p1 p2 p3 p4 p5 p6 p7 p8 p9 p10 Hown5 Hvb5 Hbw5
      refine turn_end ?_
      try simp only [List.getElem_toArray, List.getElem_cons_succ, List.getElem_cons_zero, Act.put, List.setIfInBounds_toArray, List.set_cons_zero, List.set_cons_succ]
      go_wp2_with fail
      go_roundw
      case rel => exact ⟨j + 1, _, by go_num, by omega, Hown6, Hvb6, Hbw6⟩
      case measure => simp only [intOf]; omega
    · have hjl : (sortL ts).take j = sortL ts := List.take_of_length_le (by omega)
      rw [hjl] at hOr hlj
      have hsl2 : (strsV (sortL ts)).length = j := by rw [← hlj, valsD_len]
      have Hvb2 := Lib.hid hvb.out
      have H9 := Lib.hid (And.intro ((hbw.out.block w.heap.size (by omega)).trans H2.out.1) (H2.out.2.trans (hbw.out.mono H2.out.2.size)))
      have HOr := Lib.hid hOr
      obtain ⟨q0, q1, q2, q3, q4, q5, q6, q7, q8, q9, q10⟩ := five_facts Hvb2.out
      obtain ⟨p0, p1, p2, p3, p4, p5, p6, p7, p8, p9, p10⟩ := five_facts H9.out.1
      clear hown hvb hbw hOr hjl hlj
      go_wp2_with fail
      have hend := res_set (Nat.le_refl _) H9.out.2 H9.out.1 (.int .i64 4) (.int .i64 0) (.string ⟨#[]⟩) (.slice aO j cO) (.slice none 0 0)
      have hrow := HOr.out.mono (w' := ((((wr.setCell ⟨w.heap.size, 0, none⟩ (.int .i64 4)).setCell ⟨w.heap.size, 1, none⟩ (.int .i64 0)).setCell ⟨w.heap.size, 2, none⟩ (.string ⟨#[]⟩)).setCell ⟨w.heap.size, 3, none⟩ (.slice aO j cO)).setCell ⟨w.heap.size, 4, none⟩ (.slice none 0 0)) (G := fun b => w.heap.size ≤ b) (fun b hb hl => ⟨by show w.heap.size ≤ b; have : w2.heap.size + 1 ≤ b := hb; omega, by simpa using hl, by have : w2.heap.size + 1 ≤ b := hb; rw [set_other (by omega), set_other (by omega), set_other (by omega), set_other (by omega), set_other (by omega)]⟩)
      generalize World.setCell _ _ _ = W9 at hend hrow ⊢
      obtain ⟨p0, p1, p2, p3, p4, p5, p6, p7, p8, p9, p10⟩ := five_facts hend.1
      refine bodyPost_ret (v := .tuple #[.agg #[.int .i64 4, .int .i64 0, .string ⟨#[]⟩, .slice aO j cO, .slice none 0 0], .int .i64 0]) (by simp [results, Tryz.results207, go_sem, p0, p1, p2, p3, p4, p5]) rfl ?_
      have hag := AggAt.val_mk (l := strsV (sortL ts)) (ks := []) 4 0 ⟨#[]⟩ cO 0 hrow (RowAt.nil (F := fun b => w.heap.size ≤ b) (w := W9) none)
      rw [hsl2] at hag
      exact ⟨hend.2, _, rfl, hag⟩
end Go.Proofs.YtmmflgbhgjefmaaGreatDoor
namespace Go.Proofs.YtmmflgbhgjefmaaGreatDoor
open Go Go.RowKit

set_option maxRecDepth 100000 in
set_option maxHeartbeats 4000000 in
theorem rtexts_any (ts : List ByteArray) (a : Option Addr) (cap : Nat) (w : World) (hst : StrsAt w a ts) (hlen : ts.length ≤ 1000) :
    Calls Tryz.prog 11 #[.slice a ts.length cap] w (fun e w' => Below w.heap.size w w' ∧ ∃ aO cO, e = .returned (.agg #[.int .i64 4, .int .i64 0, .string ⟨#[]⟩, .slice aO ts.length cO, .slice none 0 0]) ∧ RowAt (fun b => w.heap.size ≤ b) w' aO (valsD (strsV ts))) := by
  obtain ⟨n1, n2, n3, n4⟩ := alloc2 w (.cells #[.int .i64 0, .int .i64 0, .string ⟨#[]⟩, .slice none 0 0, .slice none 0 0] 31) (.cells #[.int .i64 4, .int .i64 0, .string ⟨#[]⟩, .slice none 0 0, .slice none 0 0] 31)
  have H2 := Lib.hid (And.intro n1 n3)
  have Hvb := Lib.hid n2
  have Hst := Lib.hid hst
  clear hst n1 n2 n3 n4
  obtain ⟨i0, hi, hz0, hz1, hz2⟩ := info_parts infoVal
  go_enter Tryz.func11, Tryz.ntmps11
  go_wp2_with fail
  generalize World.alloc _ _ = W at H2 Hvb ⊢
  have hWz : w.heap.size + 2 ≤ W.heap.size := by have := here Hvb.out; omega
  go_loopw [9] (fun i wr => ∃ (j : Nat) (v : Value), i = .int .i64 j ∧ j ≤ ts.length ∧ Hid (OwnD (fun b => w.heap.size + 2 ≤ b) wr (w.heap.size + 2) 31 5 v (valsD (strsV (ts.take j)))) ∧ Hid (wr.heap[w.heap.size + 1]? = some (.cells #[.int .i64 4, .int .i64 0, .string ⟨#[]⟩, v, .slice none 0 0] 31 (0, 0))) ∧ Hid (wr.heap[w.heap.size]? = some (.cells #[.int .i64 0, .int .i64 0, .string ⟨#[]⟩, .slice none 0 0, .slice none 0 0] 31 (0, 0)) ∧ Below w.heap.size w wr) ∧ Hid (w.heap.size + 2 ≤ wr.heap.size)) (fun i _ => ts.length - (intOf i).toNat)
  case atStart => exact ⟨0, _, rfl, Nat.zero_le _, Lib.hid (by rw [List.take_zero]; exact OwnD.nil _ _ _ _ _), Hvb, Lib.hid ⟨H2.out.1, H2.out.2⟩, Lib.hid hWz⟩
  case round =>
    obtain ⟨j, v, rfl, hj, hown, hvb, hbw, hwz⟩ := hrel
    have hlj : (valsD (strsV (ts.take j))).length = j := by rw [valsD_len, strsV, List.length_map, List.length_take]; omega
    obtain ⟨aO, cO, hO, hOr⟩ := hown.out.rowAt (fun g hg => (hown.out.block_lt hg).1)
    rw [hlj] at hO
    subst hO
    obtain ⟨q0, q1, q2, q3, q4, q5, q6, q7, q8, q9, q10⟩ := five_facts hvb.out
    by_cases hlt : j < ts.length
    · obtain ⟨bK, oK, hak, hck⟩ := (Hst.out.below hbw.out.2) j _ (List.getElem?_eq_getElem hlt)
      subst hak
      have Htk := Lib.hid (strsV_take ts j hlt)
      generalize ts[j] = x at hck Htk
      have hbn : Below wr.heap.size wr (wr.alloc (.cells #[.int .i64 3, .int .i64 0, .string x, .slice none 0 0, .slice none 0 0] 31)) := (Below.refl _ wr).alloc (Nat.le_refl _) _
      have Hown4 := Lib.hid (hown.out.below hbn)
      have Hvb4 := Lib.hid (stays hvb.out hbn)
      have Hbw4 := Lib.hid (And.intro (stays hbw.out.1 hbn) (hbw.out.2.trans (hbn.mono hbw.out.2.size)))
      have Hnews := Lib.hid (lit_news wr [.int .i64 3, .int .i64 0, .string x, .slice none 0 0, .slice none 0 0] 31)
      have Hag : Hid (AggAt (fun b => w.heap.size + 2 ≤ b ∧ (Value.slice aO j cO).ownBlock ≠ some b) (wr.alloc (.cells #[.int .i64 3, .int .i64 0, .string x, .slice none 0 0, .slice none 0 0] 31)) (valD (strVl x)) [.int .i64 3, .int .i64 0, .string x, .slice none 0 0, .slice none 0 0]) := Lib.hid (AggAt.str _ _ x)
      have Hobl : Hid (∀ g, (Value.slice aO j cO).ownBlock = some g → w.heap.size + 2 ≤ g) := Lib.hid (fun g hg => (hown.out.block_lt hg).1)
      have Hwz := hwz
      have hwz' := hwz.out
      clear hown hvb hbw hOr hbn hwz
      go_wp2_with (at_builtin; refine wpList_append_dat rfl _ _ 28 rfl (w.heap.size + 2) 31 i0 _ 5 80 Tryz.underlying28 hi hz0 hz1 hz2 rfl (by decide) (.slice aO j cO) (fun b => w.heap.size + 2 ≤ b) (valsD (strsV (ts.take j))) rfl Hown4.out ⟨wr.heap.size, 0, none⟩ 1 (valD (strVl x)) [.int .i64 3, .int .i64 0, .string x, .slice none 0 0, .slice none 0 0] rfl rfl Hnews.out ?_ Hag.out ?_ ?_ ?_ ?_)
      · simp [Value.oneCell']
      · rw [hlj]; unfold maxLen; omega
      · rw [hlj]; omega
      · first | omega | (simp; omega)
      intro v5 w5 hown5 hgrow5 _
      have Hown5 : Hid (OwnD (fun b => w.heap.size + 2 ≤ b) w5 (w.heap.size + 2) 31 5 v5 (valsD (strsV (ts.take (j + 1))))) := Lib.hid (by rw [Htk.out]; exact hown5)
      have hb5 := grown_below (n := w.heap.size + 2) hgrow5 Hobl.out (by simp; omega)
      have Hvb5 := Lib.hid ((hb5.block (w.heap.size + 1) (by omega)).trans Hvb4.out)
      have Hbw5 := Lib.hid (And.intro ((hb5.block w.heap.size (by omega)).trans Hbw4.out.1) (Hbw4.out.2.trans (hb5.mono (by omega))))
      have hsz5 : w.heap.size + 2 ≤ w5.heap.size := by have := hb5.size; simp at this; omega
      obtain ⟨aO5, cO5, hO5, -⟩ := Hown5.out.rowAt (fun g hg => (Hown5.out.block_lt hg).1)
      subst hO5
      have Hobl5 : Hid (∀ g, (Value.slice aO5 (valsD (strsV (ts.take (j + 1)))).length cO5).ownBlock = some g → w.heap.size + 2 ≤ g) := Lib.hid (fun g hg => (Hown5.out.block_lt hg).1)
      clear hown5 hgrow5 Hown4 Hvb4 Hbw4 Hnews Hag Hobl hb5 q0 q1 q2 q3 q4 q5 q6 q7 q8 q9 q10 hwz'
      generalize (valsD (strsV (ts.take (j + 1)))).length = n5 at Hown5 Hobl5 ⊢
      obtain ⟨p0, p1, p2, p3, p4, p5, p6, p7, p8, p9, p10⟩ := five_facts Hvb5.out
      go_wp2_with fail
      have Hvb6 : Hid ((w5.setCell ⟨w.heap.size + 1, 3, none⟩ (.slice aO5 n5 cO5)).heap[w.heap.size + 1]? = some (.cells #[.int .i64 4, .int .i64 0, .string ⟨#[]⟩, .slice aO5 n5 cO5, .slice none 0 0] 31 (0, 0))) := Lib.hid (by rw [set_same Hvb5.out 3]; rfl)
      have Hown6 := Lib.hid (Hown5.out.keep (w' := w5.setCell ⟨w.heap.size + 1, 3, none⟩ (.slice aO5 n5 cO5)) (fun b hb hFb => set_other (by
        rcases hFb with h | h
        · have : w.heap.size + 2 ≤ b := h
          omega
        · have := Hobl5.out b h
          omega) 3 _) (by simp))
      have Hbw6 := Lib.hid (And.intro ((set_other (b := w.heap.size + 1) (k := w.heap.size) (w := w5) (by omega) 3 (.slice aO5 n5 cO5)).trans Hbw5.out.1) (Hbw5.out.2.setCell (p := ⟨w.heap.size + 1, 3, none⟩) (by show _ ≤ w.heap.size + 1; omega) (.slice aO5 n5 cO5)))
      have Hsz6 : Hid (w.heap.size + 2 ≤ (w5.setCell ⟨w.heap.size + 1, 3, none⟩ (.slice aO5 n5 cO5)).heap.size) := Lib.hid (by simpa using hsz5)
      generalize World.setCell _ _ _ = W6 at Hvb6 Hown6 Hbw6 Hsz6 ⊢
      clear p0 p1 p2 p3 p4 p5 p6 p7 p8 p9 p10 Hown5 Hvb5 Hbw5
      go_roundw
      case rel => exact ⟨j + 1, _, by go_num, by omega, Hown6, Hvb6, Hbw6, Hsz6⟩
      case measure => simp only [intOf]; omega
    · have hjl : ts.take j = ts := List.take_of_length_le (by omega)
      have hje : j = ts.length := by omega
      rw [hjl] at hOr
      subst hje
      have H9 := Lib.hid hbw.out
      have HOr := Lib.hid hOr
      obtain ⟨p0, p1, p2, p3, p4, p5, p6, p7, p8, p9, p10⟩ := five_facts H9.out.1
      clear hown hbw hOr hjl hlj
      go_wp2_with fail
      have hend := res_set (Nat.le_refl _) H9.out.2 H9.out.1 (.int .i64 4) (.int .i64 0) (.string ⟨#[]⟩) (.slice aO ts.length cO) (.slice none 0 0)
      have hrow := HOr.out.mono (w' := ((((wr.setCell ⟨w.heap.size, 0, none⟩ (.int .i64 4)).setCell ⟨w.heap.size, 1, none⟩ (.int .i64 0)).setCell ⟨w.heap.size, 2, none⟩ (.string ⟨#[]⟩)).setCell ⟨w.heap.size, 3, none⟩ (.slice aO ts.length cO)).setCell ⟨w.heap.size, 4, none⟩ (.slice none 0 0)) (G := fun b => w.heap.size ≤ b) (fun b hb hl => ⟨by show w.heap.size ≤ b; have : w.heap.size + 2 ≤ b := hb; omega, by simpa using hl, by have : w.heap.size + 2 ≤ b := hb; rw [set_other (by omega), set_other (by omega), set_other (by omega), set_other (by omega), set_other (by omega)]⟩)
      generalize World.setCell _ _ _ = W9 at hend hrow ⊢
      obtain ⟨p0, p1, p2, p3, p4, p5, p6, p7, p8, p9, p10⟩ := five_facts hend.1
      refine bodyPost_ret (v := .agg #[.int .i64 4, .int .i64 0, .string ⟨#[]⟩, .slice aO ts.length cO, .slice none 0 0]) (by simp [results, Tryz.results11, go_sem, p0, p1, p2, p3, p4, p5]) rfl ?_
      exact ⟨hend.2, _, _, rfl, hrow⟩
end Go.Proofs.YtmmflgbhgjefmaaGreatDoor
