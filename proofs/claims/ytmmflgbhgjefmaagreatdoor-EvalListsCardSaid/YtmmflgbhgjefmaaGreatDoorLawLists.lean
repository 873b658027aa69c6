/-
  The walk of the statement EvalLists.
-/
import Derived.Test.YtmmflgbhgjefmaaGreatDoorMAlive
import Derived.Test.YtmmflgbhgjefmaaGreatDoorMListsBox
import Derived.Test.YtmmflgbhgjefmaaGreatDoorSameR
import Derived.Test.YtmmflgbhgjefmaaGreatDoorCnt
namespace Go.Proofs.YtmmflgbhgjefmaaGreatDoor
open Go Go.RowKit Go.Maps

set_option maxRecDepth 100000 in
set_option maxHeartbeats 8000000 in
theorem lists_any (a : Option Addr) (cap : Nat) (l : List ByteArray) (sep : ByteArray) (w : World) (hml : l.length ≤ 140737488351232) (hsz : ∀ x ∈ l, x.size ≤ 140737488351232) (hsep : sep.size ≤ 140737488351232) (hat : StrsAt w a l) (hw : StdE w) :
    Calls Tryz.prog 4 #[.slice a l.length cap, .string sep] w (fun e w' => e = .returned (.bool true) ∧ Below w.heap.size w w') := by
  have Hat := Lib.hid hat
  have Hsz := Lib.hid hsz
  clear hat hsz
  have hm : ∀ w : World, (method 428 58 (.agg #[]) "Call").run Tryz.prog w = .ok (202, .agg #[]) w := fun _ => by kernel_rfl
  go_enter Tryz.func4, Tryz.ntmps4
  go_wp2_with fail
  refine (alive_any _ hw).mono ?_
  rintro e w1 ⟨rfl, hb1⟩
  have Hat1 := Lib.hid (Hat.out.below hb1)
  have Hb1 := Lib.hid hb1
  clear hb1 Hat hw
  go_wp2_with fail
  go_loop [5, 31] (fun n i => ∃ j : Nat, i = .int .i64 j ∧ j ≤ l.length ∧ n = .int .i64 ((totL (l.take j) : Nat) : Int) ∧ Hid (totL (l.take j) ≤ 3000)) (fun _ i => l.length - (intOf i).toNat)
  case atStart => exact ⟨0, rfl, Nat.zero_le _, rfl, Lib.hid (by simp [totL])⟩
  case round =>
    obtain ⟨j, rfl, hj, rfl, htot⟩ := hrel
    by_cases hlt : j < l.length
    · obtain ⟨bK, oK, hak, hck⟩ := Hat1.out j _ (List.getElem?_eq_getElem hlt)
      subst hak
      have hs1 := totL_take l j hlt
      have hs2 := Hsz.out _ (List.getElem_mem hlt)
      generalize l[j] = x at hck hs1 hs2
      have ht := htot.out
      have Hs1 := Lib.hid hs1
      clear hs1 htot
      generalize totL (l.take j) = T at ht Hs1 ⊢
      by_cases hbig : (3000 : Int) < ((T + (x.size + 1) : Nat) : Int)
      · go_wp2_with fail
        exact bodyPost_ret (v := .bool true) (by simp [results, Tryz.results4, go_sem]) rfl ⟨rfl, Hb1.out⟩
      · go_wp2_with fail
        go_round
        case rel => exact ⟨j + 1, by go_num, by omega, by rw [Hs1.out]; go_num, Lib.hid (by rw [Hs1.out]; omega)⟩
        case measure => simp only [intOf]; omega
    · have hjl : l.take j = l := List.take_of_length_le (by omega)
      rw [hjl] at htot
      rw [hjl]
      clear hjl
      by_cases hl100 : (100 : Int) < l.length
      · go_wp2_with fail
        exact bodyPost_ret (v := .bool true) (by simp [results, Tryz.results4, go_sem]) rfl ⟨rfl, Hb1.out⟩
      by_cases hs100 : (100 : Int) < sep.size
      · go_wp2_with fail
        exact bodyPost_ret (v := .bool true) (by simp [results, Tryz.results4, go_sem]) rfl ⟨rfl, Hb1.out⟩
      go_wp2_with fail
      refine (plain_any _).mono ?_
      rintro e w2 ⟨rfl, hb2⟩
      have Hat2 := Lib.hid (Hat1.out.below hb2)
      have Hb2 := Lib.hid (Hb1.out.trans (hb2.mono Hb1.out.size))
      clear hb2 Hat1 Hb1
      unfold plainV
      go_wp2_with fail
      refine (rtexts_any l a cap _ Hat2.out (by omega)).mono ?_
      rintro e w3 ⟨hb3, aL, cL, rfl, hrow⟩
      have Hat3 := Lib.hid (Hat2.out.below hb3)
      have Hb3 := Lib.hid (Hb2.out.trans (hb3.mono Hb2.out.size))
      have Hrow3 := Lib.hid hrow.here
      obtain ⟨n1, n2, n3, n4⟩ := alloc2 w3 (.cells (nCells aL l.length cL) 33) (.cells #[.string ⟨#[]⟩, .int .i64 3, .int .i64 0, .string sep, .slice none 0 0, .slice none 0 0, .string ⟨#[]⟩, .int .i64 4, .int .i64 0, .string ⟨#[]⟩, .slice aL l.length cL, .slice none 0 0] 33)
      have hsz45 : l.length ≤ 100 := by omega
      have Hz : Hid (∀ s ∈ l, s.size ≤ 65536) := Lib.hid (fun s hs => by have := totL_mem hs; have := htot.out; omega)
      have H4 : Hid (LS w a l w3.heap.size aL cL ((w3.alloc (.cells (nCells aL l.length cL) 33)).alloc (.cells #[.string ⟨#[]⟩, .int .i64 3, .int .i64 0, .string sep, .slice none 0 0, .slice none 0 0, .string ⟨#[]⟩, .int .i64 4, .int .i64 0, .string ⟨#[]⟩, .slice aL l.length cL, .slice none 0 0] 33))) := Lib.hid ⟨n1, Hb3.out.trans (n3.mono Hb3.out.size), (hrow.here.below n3).wider (fun b hb _ => hb.2), Hat3.out.below n3⟩
      have hR := row_two n2 H4.out.row
      have Hj := Lib.hid (host_join l sep (lists_fit hsz45 (by omega) htot.out) _ _ 2 0 0 _ hR (fun b hb => by have hs1 : ((w3.alloc (.cells (nCells aL l.length cL) 33)).alloc (.cells #[.string ⟨#[]⟩, .int .i64 3, .int .i64 0, .string sep, .slice none 0 0, .slice none 0 0, .string ⟨#[]⟩, .int .i64 4, .int .i64 0, .string ⟨#[]⟩, .slice aL l.length cL, .slice none 0 0] 33)).heap.size = w3.heap.size + 2 := n4; rcases hb with hb | hb <;> omega) Hz.out (by omega))
      clear hb3 hrow Hat2 Hb2 n1 n2 n3 n4 hR Hat3 Hb3 Hrow3
      unfold nCells at Hj
      go_wp2_with fail
      refine Hj.out.mono ?_
      rintro e w5 ⟨hb, cs, rfl, hag⟩
      obtain ⟨z1, f1, z2, f2, rfl, -, -⟩ := hag.val
      have H := Lib.hid (H4.out.later hb)
      clear hag hb Hj H4 
      obtain ⟨n1, n2, n3, n4⟩ := alloc2 w5 (.cells #[.int .i64 3, .int .i64 0, .string (joinB l sep), .slice z1 0 f1, .slice z2 0 f2] 31) (.cells (nCells aL l.length cL) 33)
      have H4n := Lib.hid (H.out.later n3)
      have B0 := Lib.hid n1
      have hR := row_one n2 H4n.out.row
      have hw3 : w3.heap.size < w5.heap.size := here H.out.n
      have Hj := Lib.hid (host_lines l (by have := htot.out; omega) _ _ 1 0 0 _ hR (fun b hb => by have hs1 : ((w5.alloc (.cells #[.int .i64 3, .int .i64 0, .string (joinB l sep), .slice z1 0 f1, .slice z2 0 f2] 31)).alloc (.cells (nCells aL l.length cL) 33)).heap.size = w5.heap.size + 2 := n4; rcases hb with hb | hb <;> omega) Hz.out (by omega))
      unfold nCells at Hj
      obtain ⟨t0, t1, t2, t3, t4, t5, t6⟩ := six_facts (show w5.heap[w3.heap.size]? = some (.cells #[.string ⟨#[]⟩, .int .i64 4, .int .i64 0, .string ⟨#[]⟩, .slice aL l.length cL, .slice none 0 0] 33 (0, 0)) from H.out.n)
      clear n1 n2 n3 n4 hR H
      go_wp2_with fail
      clear t0 t1 t2 t3 t4 t5 t6 hw3
      have H4 := H4n
      clear H4n
      refine Hj.out.mono ?_
      rintro e w6 ⟨hb, cs, rfl, hag⟩
      obtain ⟨z3, f3, z4, f4, rfl, -, -⟩ := hag.val
      have H := Lib.hid (H4.out.later hb)
      have B0' := Lib.hid (stays B0.out hb)
      clear hag hb Hj H4 B0
      obtain ⟨n1, n2, n3, n4⟩ := alloc2 w6 (.cells #[.int .i64 3, .int .i64 0, .string (linesB l), .slice z3 0 f3, .slice z4 0 f4] 31) (.cells (nCells aL l.length cL) 33)
      have H4n := Lib.hid (H.out.later n3)
      have B1 := Lib.hid n1
      have B0n := Lib.hid (stays B0'.out n3)
      have hR := row_one n2 H4n.out.row
      have hw3 : w3.heap.size < w6.heap.size := here H.out.n
      have Hj := Lib.hid (host_sorted l _ _ 1 0 0 _ hR (fun b hb => by have hs1 : ((w6.alloc (.cells #[.int .i64 3, .int .i64 0, .string (linesB l), .slice z3 0 f3, .slice z4 0 f4] 31)).alloc (.cells (nCells aL l.length cL) 33)).heap.size = w6.heap.size + 2 := n4; rcases hb with hb | hb <;> omega) Hz.out (by omega))
      unfold nCells at Hj
      obtain ⟨t0, t1, t2, t3, t4, t5, t6⟩ := six_facts (show w6.heap[w3.heap.size]? = some (.cells #[.string ⟨#[]⟩, .int .i64 4, .int .i64 0, .string ⟨#[]⟩, .slice aL l.length cL, .slice none 0 0] 33 (0, 0)) from H.out.n)
      clear n1 n2 n3 n4 hR H B0'
      go_wp2_with fail
      clear t0 t1 t2 t3 t4 t5 t6 hw3
      have B0 := B0n
      clear B0n
      have H4 := H4n
      clear H4n
      refine Hj.out.mono ?_
      rintro e w7 ⟨hb, cs, rfl, hag⟩
      obtain ⟨aX, cX, z6, f6, rfl, hrX, -⟩ := hag.val
      have H := Lib.hid (H4.out.later hb)
      rw [show (strsV (sortL l)).length = l.length by rw [strsV_len, sortL_len]]
      have B0' := Lib.hid (stays B0.out hb)
      have B1' := Lib.hid (stays B1.out hb)
      clear hag hb Hj H4 B0 B1
      obtain ⟨n1, n2, n3, n4⟩ := alloc2 w7 (.cells #[.int .i64 4, .int .i64 0, .string ⟨#[]⟩, .slice aX l.length cX, .slice z6 0 f6] 31) (.cells (nCells aL l.length cL) 33)
      have H4n := Lib.hid (H.out.later n3)
      have B2 := Lib.hid n1
      have B0n := Lib.hid (stays B0'.out n3)
      have B1n := Lib.hid (stays B1'.out n3)
      have HXn := Lib.hid (hrX.here.below n3)
      have hR := row_one n2 H4n.out.row
      have hw3 : w3.heap.size < w7.heap.size := here H.out.n
      have Hj := Lib.hid (host_len l _ _ 1 0 0 _ hR (fun b hb => by have hs1 : ((w7.alloc (.cells #[.int .i64 4, .int .i64 0, .string ⟨#[]⟩, .slice aX l.length cX, .slice z6 0 f6] 31)).alloc (.cells (nCells aL l.length cL) 33)).heap.size = w7.heap.size + 2 := n4; rcases hb with hb | hb <;> omega) Hz.out (by omega))
      unfold nCells at Hj
      obtain ⟨t0, t1, t2, t3, t4, t5, t6⟩ := six_facts (show w7.heap[w3.heap.size]? = some (.cells #[.string ⟨#[]⟩, .int .i64 4, .int .i64 0, .string ⟨#[]⟩, .slice aL l.length cL, .slice none 0 0] 33 (0, 0)) from H.out.n)
      clear n1 n2 n3 n4 hR H B0' B1' hrX
      go_wp2_with fail
      clear t0 t1 t2 t3 t4 t5 t6 hw3
      have B0 := B0n
      clear B0n
      have B1 := B1n
      clear B1n
      have H4 := H4n
      clear H4n
      have HX := HXn
      clear HXn
      refine Hj.out.mono ?_
      rintro e w8 ⟨hb, cs, rfl, hag⟩
      obtain ⟨z7, f7, z8, f8, rfl, -, -⟩ := hag.val
      have H := Lib.hid (H4.out.later hb)
      have B0' := Lib.hid (stays B0.out hb)
      have B1' := Lib.hid (stays B1.out hb)
      have B2' := Lib.hid (stays B2.out hb)
      have HX' := Lib.hid (HX.out.below hb)
      clear hag hb Hj H4 B0 B1 B2 HX
      have hb9 : Below w8.heap.size w8 (w8.alloc (.cells #[.int .i64 2, .int .i64 l.length, .string ⟨#[]⟩, .slice z7 0 f7, .slice z8 0 f8] 31)) := (Below.refl _ w8).alloc (Nat.le_refl _) _
      have H9 := Lib.hid (H.out.later hb9)
      have C0 := Lib.hid (stays B0'.out hb9)
      have C1 := Lib.hid (stays B1'.out hb9)
      have C2 := Lib.hid (stays B2'.out hb9)
      have CX := Lib.hid (HX'.out.below hb9)
      obtain ⟨q0, q1, q2, q3, q4, q5, q6, q7, q8, q9, q10⟩ := five_facts B2'.out
      simp only [List.length_nil]
      clear hb9 H B0' B1' B2' HX'
      go_wp2_with fail
      generalize World.alloc _ _ = W at H9 C0 C1 C2 CX ⊢
      clear q0 q1 q2 q3 q4 q5 q6 q7 q8 q9 q10 Hz Hsz
      have Htot := Lib.hid htot.out
      have hsp100 : sep.size ≤ 100 := by omega
      clear htot
      go_loop [18, 19, 121] (fun u v i => ∃ j : Nat, i = .int .i64 j ∧ j ≤ l.length ∧ u = .string (joinGo sep l j) ∧ v = .string (linesGo l j)) (fun _ _ i => l.length - (intOf i).toNat)
      case atStart => exact ⟨0, rfl, Nat.zero_le _, rfl, rfl⟩
      case round =>
        obtain ⟨j, rfl, hj, rfl, rfl⟩ := hrel
        by_cases hlt : j < l.length
        · obtain ⟨bK, oK, hak, hck⟩ := H9.out.strs j _ (List.getElem?_eq_getElem hlt)
          have Hjn : Hid (joinGo sep l (j + 1) = (if 0 < j then joinGo sep l j ++ sep else joinGo sep l j) ++ l[j]) := Lib.hid (by rw [joinGo, List.getElem?_eq_getElem hlt, Option.getD_some])
          have Hln : Hid (linesGo l (j + 1) = linesGo l j ++ (l[j] ++ ⟨#[10]⟩)) := Lib.hid (by rw [linesGo, List.getElem?_eq_getElem hlt, Option.getD_some])
          have hJz := joinGo_le hsz45 hsp100 Htot.out hj
          have hLz := linesGo_le Htot.out hj
          have hxz : l[j].size ≤ 3000 := by have := totL_mem (List.getElem_mem hlt); have := Htot.out; omega
          subst hak
          generalize l[j] = x at hck Hjn Hln hxz
          generalize joinGo sep l j = J at Hjn hJz ⊢
          generalize linesGo l j = L at Hln hLz ⊢
          by_cases h0 : 0 < j
          · rw [if_pos h0] at Hjn
            have h0' : (0 : Int) < (j : Int) := by omega
            go_wp2_with fail
            go_round
            case rel => exact ⟨j + 1, by go_num, by omega, by rw [Hjn.out], by rw [Hln.out]⟩
            case measure => simp only [intOf]; omega
          · rw [if_neg h0] at Hjn
            have h0' : ¬ (0 : Int) < (j : Int) := by omega
            go_wp2_with fail
            go_round
            case rel => exact ⟨j + 1, by go_num, by omega, by rw [Hjn.out], by rw [Hln.out]⟩
            case measure => simp only [intOf]; omega
        · have hjl : j = l.length := by omega
          subst hjl
          have hJ : joinGo sep l l.length = joinB l sep := joinGo_all sep l
          have hL : linesGo l l.length = linesB l := linesGo_all l
          rw [hJ, hL]
          clear hJ hL
          have hmm := @run_makeMap Tryz.prog
          go_wp2_with fail
          have hWm : Below W.heap.size W (W.alloc (.map #[] 0)) := (Below.refl _ W).alloc (Nat.le_refl _) _
          have Hm0 : Hid (∃ m, CntAt (W.alloc (.map #[] 0)) W.heap.size 0 (cntL l 0 0) m) := Lib.hid ⟨_, (CntAt.made W).congr (fun x => by simp [cntL])⟩
          have HWm := Lib.hid hWm
          have hsl := sortL_len l
          have Hrs : Hid (∀ (j : Nat) (hj : j < (sortL l).length), (sortL l)[j].size ≤ 3000) := Lib.hid (fun j hj => by
            obtain ⟨y, hy, he⟩ := sortL_mem (List.getElem_mem hj)
            have h1 := totL_mem hy
            have h2 := Htot.out
            have h3 := congrArg List.length he
            rw [len_data, len_data] at h3
            omega)
          generalize W.alloc _ = Wm at Hm0 HWm ⊢
          clear hWm
          go_loopw [142] (fun i wr => ∃ j : Nat, i = .int .i64 j ∧ j ≤ l.length ∧ Hid (∃ m, CntAt wr W.heap.size (2 * j) (cntL l j j) m) ∧ Hid (Below W.heap.size W wr)) (fun i _ => l.length - (intOf i).toNat)
          case atStart => exact ⟨0, rfl, Nat.zero_le _, Hm0, HWm⟩
          case round =>
            obtain ⟨j, rfl, hj, hcnt, hbw⟩ := hrel
            by_cases hlt : j < l.length
            · obtain ⟨m, hcn⟩ := hcnt.out
              obtain ⟨bK, oK, hak, hck⟩ := (H9.out.strs.below hbw.out) j _ (List.getElem?_eq_getElem hlt)
              have hxz : l[j].size ≤ 3000 := by have := totL_mem (List.getElem_mem hlt); have := Htot.out; omega
              have hlt' : j < (sortL l).length := by omega
              have hyz := Hrs.out j hlt'
              have hl1 := hcn.look (P := Tryz.prog) (e := 3) (t := 46) Tryz.underlying9 Tryz.underlying46 (by kernel_rfl) l[j] (by unfold maxLen; omega)
              obtain ⟨o1, m1, hs1, hc1⟩ := hcn.store (P := Tryz.prog) (e := 3) (t := 46) Tryz.underlying9 Tryz.underlying46 l[j] (by unfold maxLen; omega) (cntL l j j l[j].data.toList + 1)
              have hc1' : CntAt (wr.putObj W.heap.size o1) W.heap.size (2 * j + 1) (cntL l (j + 1) j) m1 := hc1.congr (fun x => by rw [cntL_up l j j hlt x]; split <;> simp_all)
              have hl2 := hc1'.look (P := Tryz.prog) (e := 3) (t := 46) Tryz.underlying9 Tryz.underlying46 (by kernel_rfl) (sortL l)[j] (by unfold maxLen; omega)
              obtain ⟨o2, m2, hs2, hc2⟩ := hc1'.store (P := Tryz.prog) (e := 3) (t := 46) Tryz.underlying9 Tryz.underlying46 (sortL l)[j] (by unfold maxLen; omega) (cntL l (j + 1) j (sortL l)[j].data.toList - 1)
              have Hc2 : Hid (∃ m, CntAt ((wr.putObj W.heap.size o1).putObj W.heap.size o2) W.heap.size (2 * (j + 1)) (cntL l (j + 1) (j + 1)) m) := Lib.hid ⟨m2, hc2.congr (fun x => by rw [cntL_down l (j + 1) j hlt' x]; split <;> simp_all)⟩
              have hb1 := cntL_bound l j j l[j].data.toList
              have hb2 := cntL_bound l (j + 1) j (sortL l)[j].data.toList
              have hw1 : Below W.heap.size W (wr.putObj W.heap.size o1) := below_put hbw.out (Nat.le_refl _) o1
              have hw2 : Below W.heap.size W ((wr.putObj W.heap.size o1).putObj W.heap.size o2) := below_put hw1 (Nat.le_refl _) o2
              have Hw2 := Lib.hid hw2
              obtain ⟨bX, oX, -, -, -, -, haX, -, -, -, -, u2, -⟩ := (CX.out.below hw1).val (j := j) (show (strsV (sortL l))[j]? = some (.mk 3 0 (sortL l)[j] [] []) by rw [strsV, List.getElem?_map, List.getElem?_eq_getElem hlt']; rfl)
              obtain ⟨bX', oX', -, -, -, -, haX', -, -, -, -, v2, -⟩ := (CX.out.below hw2).val (j := j) (show (strsV (sortL l))[j]? = some (.mk 3 0 (sortL l)[j] [] []) by rw [strsV, List.getElem?_map, List.getElem?_eq_getElem hlt']; rfl)
              rw [haX] at haX'
              cases haX'
              obtain ⟨p0, p1, p2, p3, p4, p5, -⟩ := five_facts (stays C2.out hw1)
              obtain ⟨r0, r1, r2, r3, r4, r5, -⟩ := five_facts (stays C2.out hw2)
              subst hak haX
              have Hprev : Hid (0 < j → ∃ y' : ByteArray, ((wr.putObj W.heap.size o1).putObj W.heap.size o2).cell? ⟨bX, oX + (j - 1) * 5 + 2, none⟩ = some (.string y') ∧ Op.bytesLess (sortL l)[j].toList y'.toList = false) := Lib.hid (fun h0 => by
                have hlp : j - 1 < (sortL l).length := by omega
                obtain ⟨bX', oX', -, -, -, -, haX', -, -, -, -, v3, -⟩ := (CX.out.below Hw2.out).val (j := j - 1) (show (strsV (sortL l))[j - 1]? = some (.mk 3 0 (sortL l)[j - 1] [] []) by rw [strsV, List.getElem?_map, List.getElem?_eq_getElem hlp]; rfl)
                cases haX'
                refine ⟨_, v3, ?_⟩
                have hr := sortL_rises l (j - 1) (by omega)
                have hje : j - 1 + 1 = j := by omega
                simp only [hje] at hr
                rw [Go.Proofs.bytesLess_eq, Lib.toList_data, Lib.toList_data, decide_eq_false_iff_not]
                exact List.not_lt.2 hr)
              generalize cntL l j j l[j].data.toList = k1 at hl1 hs1 hb1
              generalize cntL l (j + 1) j (sortL l)[j].data.toList = k2 at hl2 hs2 hb2
              clear hcn hc1 hc1' hc2 hw1 hw2 hcnt hbw hxz hyz
              generalize l[j] = x at hck hl1 hs1
              generalize (sortL l)[j] = y at hl2 hs2 u2 v2 Hprev
              by_cases h0 : 0 < j
              · obtain ⟨y', v3, hls⟩ := Hprev.out h0
                have h0' : decide ((0 : Int) < (j : Int)) = true := by simp; omega
                have h0i : (0 : Int) < (j : Int) := by omega
                go_wp2_with fail
                clear hl1 hl2 hs1 hs2 u2 p0 p1 p2 p3 p4 p5
                generalize World.putObj _ _ _ = W3 at Hc2 Hw2 v2 v3 r0 r1 r2 r3 r4 r5 ⊢
                go_quiet (fail)
                go_wp2_with fail
                have Hc3 : Hid (∃ m, CntAt (W3.drewN nq) W.heap.size (2 * (j + 1)) (cntL l (j + 1) (j + 1)) m) := Lib.hid (by obtain ⟨m, h1, h2, h3, h4⟩ := Hc2.out; exact ⟨m, h1, h2, h3, h4⟩)
                have Hw3 : Hid (Below W.heap.size W (W3.drewN nq)) := Lib.hid (below_drewN Hw2.out nq)
                go_roundw
                case rel => exact ⟨j + 1, by go_num, by omega, Hc3, Hw3⟩
                case measure => simp only [intOf]; omega
              · obtain rfl : j = 0 := by omega
                have h0' : decide ((0 : Int) < ((0 : Nat) : Int)) = false := by simp
                simp only [Nat.zero_mul, Nat.add_zero] at hck u2 v2
                go_wp2_with fail
                clear hl1 hl2 hs1 hs2 u2 p0 p1 p2 p3 p4 p5
                generalize World.putObj _ _ _ = W3 at Hc2 Hw2 v2 r0 r1 r2 r3 r4 r5 ⊢
                go_quiet (fail)
                go_wp2_with fail
                have Hc3 : Hid (∃ m, CntAt (W3.drewN nq) W.heap.size (2 * (0 + 1)) (cntL l (0 + 1) (0 + 1)) m) := Lib.hid (by obtain ⟨m, h1, h2, h3, h4⟩ := Hc2.out; exact ⟨m, h1, h2, h3, h4⟩)
                have Hw3 : Hid (Below W.heap.size W (W3.drewN nq)) := Lib.hid (below_drewN Hw2.out nq)
                go_roundw
                case rel => exact ⟨1, by go_num, by omega, Hc3, Hw3⟩
                case measure => simp only [intOf]; omega
            · have hje : j = l.length := by omega
              subst hje
              have hcn0 : ∃ D : DataW Unit, wr.ownsMap Tryz.prog 9 nought W.heap.size (2 * l.length) D := by
                obtain ⟨m, h⟩ := hcnt.out
                exact h.noughts Tryz.underlying9 (fun x => cntL_end l x) (by omega)
              obtain ⟨D, hown⟩ := hcn0
              have Hbw := Lib.hid hbw.out
              clear hcnt hbw Hrs
              go_wp2_with (first | (at_range; refine wpList_range_own _ rfl _ 46 rfl 9 3 (string_keyed Tryz.underlying9) Tryz.underlying46 nought W.heap.size _ D rfl hown ?_; intro w0 hrg0 hg0 hs0) | go_in)
              go_frame
              have hwr : W.heap.size ≤ wr.heap.size := Hbw.out.size
              have Hb0 : Hid (Below W.heap.size W w0) := Lib.hid (Hbw.out.trans (grown_below (v := .slice none 0 0) hg0 (fun g hg => by cases hg) hwr))
              generalize hrr : wr.heap.size = ri at hrg0 hwr ⊢
              clear hrr
              go_loopw [26] (fun _ wx => ∃ (left : Lit → Bool) (cnt : Nat), wx.ranges Tryz.prog 9 nought W.heap.size ri (2 * l.length) D left cnt ∧ Hid (Below W.heap.size W wx)) (fun _ wx => wx.rangeLeft W.heap.size ri)
              case atStart => exact ⟨_, _, hrg0, Hb0⟩
              case round =>
                obtain ⟨left, cnt, hrg, hbx⟩ := hrel
                go_wp2_with (first | (at_next; refine wpList_next_ranges _ rfl _ rfl 9 (string_keyed Tryz.underlying9) nought (fun s : ByteArray => Value.string s) (fun _ : Unit => Value.int .i64 0) (fun key kl hk => by obtain ⟨x, hx, -⟩ := Maps.keyOf_str Tryz.underlying9 hk; exact ⟨⟨x.toArray⟩, hx⟩) (fun v y hv => ⟨(), nought_inv hv⟩) W.heap.size ri _ D left cnt rfl hrg ?_ ?_) | go_in)
                · intro _ _
                  obtain ⟨p0, p1, p2, p3, p4, p5, -⟩ := five_facts (stays C0.out hbx.out)
                  obtain ⟨r0, r1, r2, r3, r4, r5, -⟩ := five_facts (stays C1.out hbx.out)
                  have Hs := Lib.hid (same_any a a cap cap l _ (by omega) (H9.out.strs.below hbx.out) (H9.out.strs.below hbx.out))
                  have Hfin := Lib.hid (H9.out.below.trans (hbx.out.mono H9.out.below.size))
                  clear hrg hbx
                  go_wp2_with fail
                  refine Hs.out.mono ?_
                  rintro e wz ⟨rfl, hbz⟩
                  have Hz := Lib.hid (Hfin.out.trans (hbz.mono Hfin.out.size))
                  clear Hs hbz Hfin p0 p1 p2 p3 p4 p5 r0 r1 r2 r3 r4 r5
                  go_wp2_with fail
                  exact bodyPost_ret (v := .bool true) (by simp [results, Tryz.results4, go_sem]) rfl ⟨rfl, Hz.out⟩
                · intro x c kl y w1' cnt1 hkx hlk hv hat hrg1 hlt hg1 hs1 hen
                  have Hb1 : Hid (Below W.heap.size W w1') := Lib.hid (hbx.out.trans (grown_below (v := .slice (some ⟨ri, 0, none⟩) 0 0) hg1 (fun g hg => by cases hg; exact hwr) hbx.out.size))
                  go_wp2_with fail
                  go_roundw
                  case rel => exact ⟨_, cnt1, hrg1, Hb1⟩
                  case measure => rw [hrg1.left_eq, hrg.left_eq]; exact hlt
end Go.Proofs.YtmmflgbhgjefmaaGreatDoor
