/-
  The walk of the evaluator's list. (Printed by ev_gen.py.)
  The walk of the evaluator's op. (Printed by ev_gen.py.)
  The evaluator's expr, however deep; its errors have a number.
  The walk of the evaluator's block: statements, one behind the other.
  The walks of the evaluator's statement, kind by kind. (Printed by stmt_gen.py.)
  What lies in a value that may be, may be.
-/
import Derived.Deep.RegionWith
import Derived.Test.YtmmflgbhgjefmaaGreatDoorMEvK
namespace Go.Proofs.YtmmflgbhgjefmaaGreatDoor
open Go Go.RowKit

set_option maxRecDepth 100000 in
set_option maxHeartbeats 4000000 in
theorem list_does {mp mb : Nat} {hv : Value} {ex : Nd → EM Vl} (hnz : ∀ n st x y z, ex n st = .err x y z → x ≠ 0) (hx : XDoes 79 mp mb hv ex) : XDoes 108 mp mb hv (eListN ex) := by
  intro G c w st n v hm hG hn hsn hne
  obtain ⟨kk, t, l, k, kids⟩ := n
  obtain ⟨a, cap, rfl, hr⟩ := hn.open
  obtain ⟨i0, hi, hz0, hz1, hz2⟩ := info_parts infoVal
  rw [smallN] at hsn
  obtain ⟨-, hlen, hkids⟩ := hsn
  obtain ⟨h3a, h3b, h3c, h3d, h3e⟩ := alloc3 w (.cells #[.int .i64 kk, .string t, .int .i64 l, .int .i64 k, .slice a kids.length cap] 51) (.cells #[.int .i64 0, .int .i64 0, .string ⟨#[]⟩, .slice none 0 0, .slice none 0 0] 31) (.cells #[.int .i64 0, .int .i64 0, .int .i64 0] 89)
  have H0 := XB.start hm.ok #[.int .i64 kk, .string t, .int .i64 l, .int .i64 k, .slice a kids.length cap] #[.int .i64 0, .int .i64 0, .string ⟨#[]⟩, .slice none 0 0, .slice none 0 0] #[.int .i64 0, .int .i64 0, .int .i64 0]
  have HL0 : LI mp mb hv G c w #[.int .i64 kk, .string t, .int .i64 l, .int .i64 k, .slice a kids.length cap] a kids c ((((w.alloc (.cells #[.int .i64 kk, .string t, .int .i64 l, .int .i64 k, .slice a kids.length cap] 51)).alloc (.cells #[.int .i64 0, .int .i64 0, .string ⟨#[]⟩, .slice none 0 0, .slice none 0 0] 31)).alloc (.cells #[.int .i64 0, .int .i64 0, .int .i64 0] 89)).alloc (.cells #[.int .i64 4, .int .i64 0, .string ⟨#[]⟩, .slice none 0 0, .slice none 0 0] 31)) st (.slice none 0 0) [] := by
    generalize ((w.alloc (.cells #[.int .i64 kk, .string t, .int .i64 l, .int .i64 k, .slice a kids.length cap] 51)).alloc (.cells #[.int .i64 0, .int .i64 0, .string ⟨#[]⟩, .slice none 0 0, .slice none 0 0] 31)).alloc (.cells #[.int .i64 0, .int .i64 0, .int .i64 0] 89) = W0 at *
    have hb : Below w.heap.size w (W0.alloc (.cells #[.int .i64 4, .int .i64 0, .string ⟨#[]⟩, .slice none 0 0, .slice none 0 0] 31)) := h3d.alloc (by omega) _
    have hs0 : W0.heap.size = w.heap.size + 1 + 1 + 1 := by omega
    exact ⟨H0.below ((Below.refl _ W0).alloc (Nat.le_refl _) _), by rw [← hs0]; exact heap_alloc_new W0 _, ⟨fun h => by have := hm.ok.ml _ h; omega, fun h => by have := hm.ok.fl _ h; omega⟩, OwnD.nil _ _ _ _ _, fun g hg => (by cases hg), hm.below hb, hG.mv (.of_below c hb), fun b h => (hG b h).1, hr.below hb, fun x h => (by cases h)⟩
  have HL := Lib.hid HL0
  clear h3a h3b h3c h3d h3e H0 HL0 hm hG hr hn
  obtain ⟨res, hres⟩ : ∃ res, res = eListN ex (.mk kk t l k kids) st := ⟨_, rfl⟩
  rw [← hres] at hne ⊢
  have Hres : Hid (res = EM.bind (eItems ex (kids.drop 0) []) (fun l' => eMade (.mk 4 0 ⟨#[]⟩ l' []) l k) st) := Lib.hid hres
  have Hne := Lib.hid hne
  have Hkids := Lib.hid hkids
  have Hx := Lib.hid hx
  have Hnz := Lib.hid hnz
  clear hres hne hkids hx hnz
  unfold ptr
  go_enter Tryz.func108, Tryz.ntmps108
  go_wp2_with fail
  generalize World.alloc _ _ = W1 at HL ⊢
  go_loopw [15] (fun i wr => ∃ (j : Nat) (acc : List Vl) (L : Value) (c1 : Ctx) (st1 : St), i = .int .i64 j ∧ j ≤ kids.length ∧ acc.length = j ∧ Hid (LI mp mb hv G c w #[.int .i64 kk, .string t, .int .i64 l, .int .i64 k, .slice a kids.length cap] a kids c1 wr st1 L acc) ∧ Hid (res = EM.bind (eItems ex (kids.drop j) acc) (fun l' => eMade (.mk 4 0 ⟨#[]⟩ l' []) l k) st1)) (fun i _ => kids.length - (intOf i).toNat)
  case atStart => exact ⟨0, [], _, c, st, rfl, Nat.zero_le _, rfl, HL, Hres⟩
  case round =>
    obtain ⟨j, acc, L, c1, st1, rfl, hj, hacc, hl, hre⟩ := hrel
    by_cases hlt : j < kids.length
    · cases hk : kids[j] with
      | mk xk xt xl xc xs =>
        have hjx : kids[j]? = some (.mk xk xt xl xc xs) := by rw [List.getElem?_eq_getElem hlt, hk]
        have hdrop : kids.drop j = .mk xk xt xl xc xs :: kids.drop (j + 1) := by rw [List.drop_eq_getElem_cons hlt, hk]
        obtain ⟨b, off, a1, c1', hae, hF, hbl, r0, r1, r2, r3, r4, hr1⟩ := hl.out.row.node hjx
        have hnx : ex (.mk xk xt xl xc xs) st1 ≠ .out := fun h => Hne.out (by rw [hre.out, hdrop, eItems, ebind_out (ebind_out h)])
        have hbn : Below wr.heap.size wr (wr.alloc (.cells #[.int .i64 xk, .string xt, .int .i64 xl, .int .i64 xc, .slice a1 xs.length c1'] 51)) := (Below.refl _ wr).alloc (Nat.le_refl _) _
        have Hc := Lib.hid (Hx.out G c1 _ st1 (.mk xk xt xl xc xs) _ (hl.out.ms.below hbn) (hl.out.g.mv (.of_below c1 hbn)) (NodeV.mk _ _ _ _ c1' (hr1.below hbn)) (smallNs_mem Hkids.out (List.mem_of_getElem? hjx)) hnx)
        have Hl1 := Lib.hid (hl.out.below hbn)
        have Hre : Hid (res = EM.bind (EM.bind (ex (.mk xk xt xl xc xs)) fun x => eItems ex (kids.drop (j + 1)) (acc ++ [x])) (fun l' => eMade (.mk 4 0 ⟨#[]⟩ l' []) l k) st1) := Lib.hid (by rw [hre.out, hdrop]; rfl)
        unfold ptr at Hc
        clear hk hjx hdrop hnx hbn hr1 hre hF
        subst hae
        go_wp2_with fail
        refine Hc.out.mono ?_
        rintro e w2 ⟨c2, hmv, hq⟩
        clear r0 r1 r2 r3 r4 Hc
        cases hxx : ex (.mk xk xt xl xc xs) st1 with
        | out => exact absurd hxx (fun h => Hne.out (by rw [Hre.out, ebind_out (ebind_out h)]))
        | err x y z =>
          rw [hxx] at hq
          obtain rfl := hq
          have Hfin : Hid (res = .err x y z) := Lib.hid (by rw [Hre.out, ebind_err (ebind_err hxx)])
          have hxz := Hnz.out _ _ _ _ _ hxx
          have hxz' : (x == 0) = false := by simpa using hxz
          have H1 := Lib.hid (Hl1.out.xb.later hmv)
          clear hxx Hre Hl1 hl hmv
          unfold badV zeroV faultV
          go_upto_region 7 with fail
          have hb1 : Below w2.heap.size w2 ((w2.alloc (.cells #[.int .i64 0, .int .i64 0, .string ⟨#[]⟩, .slice none 0 0, .slice none 0 0] 31)).alloc (.cells #[.int .i64 x, .int .i64 y, .int .i64 z] 89)) := ((Below.refl _ w2).alloc (Nat.le_refl _) _).alloc (by simp) _
          have Hf := Lib.hid (heap_alloc_new (w2.alloc (.cells #[.int .i64 0, .int .i64 0, .string ⟨#[]⟩, .slice none 0 0, .slice none 0 0] 31)) (.cells #[.int .i64 x, .int .i64 y, .int .i64 z] 89))
          rw [show (w2.alloc (.cells #[.int .i64 0, .int .i64 0, .string ⟨#[]⟩, .slice none 0 0, .slice none 0 0] 31)).heap.size = w2.heap.size + 1 by simp] at Hf
          have H2 := Lib.hid (H1.out.below hb1)
          have hsz := H1.out.size
          generalize World.alloc (World.alloc _ _) _ = W at H2 Hf ⊢
          generalize hfb : w2.heap.size + 1 = fb at Hf hsz ⊢
          have hsz : w.heap.size + 3 ≤ fb := by omega
          clear hb1 H1 hfb
          refine wp_region_turns (.s 0 (.s 1 (.h 2 (.h 3 .nil)))) 99 (fun W' => W'.heap[fb]? = some (.cells #[.int .i64 x, .int .i64 y, .int .i64 z] 89 (0, 0))) (by kernel_rfl) (by kernel_rfl) (fun c a d v w h => by cases d <;> exact h) Hf.out ?_
          have H5 := Lib.hid (H2.out.below ((Below.refl _ W).drew))
          have Hf5 : Hid (W.drew.heap[fb]? = some (.cells #[.int .i64 x, .int .i64 y, .int .i64 z] 89 (0, 0))) := Lib.hid Hf.out
          generalize W.drew = Wd at H5 Hf5 ⊢
          clear H2 Hf
          refine turn_steady (.agg #[.int .i64 0, .int .i64 0, .string ⟨#[]⟩, .slice none 0 0, .slice none 0 0]) rfl rfl (fun W' hS => ?_) ?_
          · go_simp
          try simp only [List.getElem_toArray, List.getElem_cons_succ, List.getElem_cons_zero, Act.put, List.setIfInBounds_toArray, List.set_cons_zero, List.set_cons_succ]
          refine turn_steady (.agg #[.int .i64 x, .int .i64 y, .int .i64 z]) rfl rfl (fun W' hS => ?_) ?_
          · obtain ⟨s0, s1, s2, s3, s4, s5, s6⟩ := three_facts hS
            clear hS
            go_simp
          try simp only [List.getElem_toArray, List.getElem_cons_succ, List.getElem_cons_zero, Act.put, List.setIfInBounds_toArray, List.set_cons_zero, List.set_cons_succ]
          obtain ⟨s0, s1, s2, s3, s4, s5, s6, s7, s8, s9, s10⟩ := five_facts H5.out.vb
          refine turn_heavy rfl (fun Kx hKx => ?_)
          go_wp2_with fail
          have H6 := Lib.hid (H5.out.setV (.int .i64 0) (.int .i64 0) (.string ⟨#[]⟩) (.slice none 0 0) (.slice none 0 0))
          have Hf6 := Lib.hid ((set5_other (W := Wd) (b := w.heap.size + 1) (k := fb) (by omega) (.int .i64 0) (.int .i64 0) (.string ⟨#[]⟩) (.slice none 0 0) (.slice none 0 0)).trans Hf5.out)
          unfold set5 at H6
          refine hKx _ _ (fun _ => Hf6.out) ?_
          generalize World.setCell _ _ _ = W6 at H6 Hf6 ⊢
          try simp only [List.getElem_toArray, List.getElem_cons_succ, List.getElem_cons_zero, Act.put, List.setIfInBounds_toArray, List.set_cons_zero, List.set_cons_succ]
          clear s0 s1 s2 s3 s4 s5 s6 s7 s8 s9 s10 hKx H5 Hf5
          obtain ⟨d0, d1, d2, d3, d4, d5, d6⟩ := three_facts H6.out.fc
          refine turn_heavy rfl (fun Ky hKy => ?_)
          go_wp2_with fail
          have H7 := Lib.hid (H6.out.setF (.int .i64 x) (.int .i64 y) (.int .i64 z))
          unfold set3 at H7
          refine hKy _ _ (fun _ => ((((set_other (by omega) 2 _).trans (set_other (by omega) 1 _)).trans (set_other (by omega) 0 _)).trans Hf6.out)) ?_
          generalize World.setCell _ _ _ = W7 at H7 ⊢
          refine turn_end ?_
          try simp only [List.getElem_toArray, List.getElem_cons_succ, List.getElem_cons_zero, Act.put, List.setIfInBounds_toArray, List.set_cons_zero, List.set_cons_succ]
          clear d0 d1 d2 d3 d4 d5 d6 hKy H6 Hf6
          obtain ⟨s0, s1, s2, s3, s4, s5, s6, s7, s8, s9, s10⟩ := five_facts H7.out.vb
          obtain ⟨d0, d1, d2, d3, d4, d5, d6⟩ := three_facts H7.out.fc
          go_wp2_with fail
          refine bodyPost_ret (v := badV x y z) (by simp [badV, zeroV, faultV, results, Tryz.results108, go_sem, s0, s1, s2, s3, s4, s5, d0, d1, d2, d3]) rfl ?_
          rw [Hfin.out]
          exact ⟨_, H7.out.mv, rfl⟩
        | ok x st2 =>
          rw [hxx] at hq
          subst hacc
          obtain ⟨hms2, v2, rfl, cs, rfl, hagg, hck⟩ := hq
          obtain ⟨yk, yn, ys, yl, yks⟩ := x
          obtain ⟨aL, capL, hL, -⟩ := (Hl1.out.own.wide (G := fun _ => True) (fun _ _ => trivial)).rowAt (fun _ _ => trivial)
          rw [valsD_len] at hL
          subst hL
          have hl2 := Hl1.out.later hmv hms2
          have hag2 : AggAt (c2.with c1.F).F w2 (valD (.mk yk yn ys yl yks)) cs := hagg.wider (fun b h _ => .inl h)
          obtain ⟨b1, e1, b2, e2, rfl, -, -⟩ := hagg.val
          have Hre2 : Hid (res = EM.bind (eItems ex (kids.drop (acc.length + 1)) (acc ++ [.mk yk yn ys yl yks])) (fun l' => eMade (.mk 4 0 ⟨#[]⟩ l' []) l k) st2) := Lib.hid (by rw [Hre.out]; simp [EM.bind, hxx])
          have hbw : Below w2.heap.size w2 (((w2.alloc (.cells #[.int .i64 yk, .int .i64 yn, .string ys, .slice b1 yl.length e1, .slice b2 yks.length e2] 31)).alloc (.cells #[.int .i64 0, .int .i64 0, .int .i64 0] 89)).alloc (.cells #[.int .i64 yk, .int .i64 yn, .string ys, .slice b1 yl.length e1, .slice b2 yks.length e2] 31)) := (((Below.refl _ w2).alloc (Nat.le_refl _) _).alloc (by simp) _).alloc (by simp; omega) _
          have Hl3 := Lib.hid (hl2.below hbw)
          have hnews := lit_news ((w2.alloc (.cells #[.int .i64 yk, .int .i64 yn, .string ys, .slice b1 yl.length e1, .slice b2 yks.length e2] 31)).alloc (.cells #[.int .i64 0, .int .i64 0, .int .i64 0] 89)) [.int .i64 yk, .int .i64 yn, .string ys, .slice b1 yl.length e1, .slice b2 yks.length e2] 31
          rw [show ((w2.alloc (.cells #[.int .i64 yk, .int .i64 yn, .string ys, .slice b1 yl.length e1, .slice b2 yks.length e2] 31)).alloc (.cells #[.int .i64 0, .int .i64 0, .int .i64 0] 89)).heap.size = w2.heap.size + 1 + 1 by simp] at hnews
          have Hnews := Lib.hid hnews
          have Hag3 := Lib.hid ((hag2.below hbw).wider (G := fun b => (c2.with c1.F).F b ∧ (Value.slice aL acc.length capL).ownBlock ≠ some b) (fun b h _ => ⟨h, fun e => (hl2.oo b e).2 h⟩))
          have Hck := Lib.hid hck
          have Hsb := Lib.hid hl2.sb
          clear hxx Hre Hl1 hl hmv hms2 hagg hck hl2 hag2 hnews hbw
          obtain ⟨q0, q1, q2, q3, q4, q5, q6, q7, q8, q9, q10⟩ := five_facts Hsb.out
          have q01 : w.heap.size + 1 + 1 < w2.heap.size := by omega
          have q02 : w.heap.size + 1 < w2.heap.size := by omega
          unfold faultV
          go_wp2_with (at_builtin; refine wpList_append_dat rfl _ _ 28 rfl (w.heap.size + 1 + 1 + 1 + 1) 31 i0 _ 5 80 Tryz.underlying28 hi hz0 hz1 hz2 rfl (by decide) (.slice aL acc.length capL) (c2.with c1.F).F (valsD acc) rfl Hl3.out.own ⟨w2.heap.size + 1 + 1, 0, none⟩ 1 (valD (.mk yk yn ys yl yks)) [.int .i64 yk, .int .i64 yn, .string ys, .slice b1 yl.length e1, .slice b2 yks.length e2] rfl rfl Hnews.out ?_ Hag3.out ?_ ?_ ?_ ?_)
          · simp [Value.oneCell']
          · rw [valsD_len]; unfold maxLen; omega
          · rw [valsD_len]; omega
          · have := (Array.getElem?_eq_some_iff.1 Hl3.out.sb).1; omega
          intro v3 w3 hown3 hgrow3 hfresh3
          obtain ⟨a3, cap3, hv3, -⟩ := (hown3.wide (G := fun _ => True) (fun _ _ => trivial)).rowAt (fun _ _ => trivial)
          rw [List.length_append, valsD_len, List.length_singleton] at hv3
          subst hv3
          have Hl4 := Lib.hid (Hl3.out.grown hown3 hgrow3 (fun g hg => (hfresh3 g hg).imp id (fun h => by simpa using h)) Hck.out)
          have Hsb4 := Lib.hid ((hgrow3.block _ (Array.getElem?_eq_some_iff.1 Hl3.out.sb).1 (fun e => by have := (Hl3.out.own.block_lt e.symm).1; omega)).trans Hl3.out.sb)
          clear q0 q01 q02 q1 q2 q3 q4 q5 q6 q7 q8 q9 q10 hown3 hgrow3 hfresh3 Hl3 Hnews Hag3 Hsb
          obtain ⟨q0, q1, q2, q3, q4, q5, q6, q7, q8, q9, q10⟩ := five_facts Hsb4.out
          go_wp2_with fail
          go_roundw
          case rel => exact ⟨acc.length + 1, acc ++ [.mk yk yn ys yl yks], _, _, st2, by go_num, by omega, by simp, Hl4, Hre2⟩
          case measure => simp only [intOf]; omega
    · subst hacc
      have hd0 : kids.drop acc.length = [] := List.drop_eq_nil_of_le (by omega)
      have Hre2 : Hid (res = eMade (.mk 4 0 ⟨#[]⟩ acc []) l k st1) := Lib.hid (by rw [hre.out, hd0]; rfl)
      obtain ⟨hxb, hms, aL, capL, hL, hag⟩ := hl.out.done
      have hok := hms.ok
      have Hsb := Lib.hid hl.out.sb
      have hsv : smallV (.mk 4 0 ⟨#[]⟩ acc []) := by
        rw [smallV]
        exact ⟨by decide, by omega, by simp, by simp, smallVs_all fun x hx => check_small (hl.out.chk x hx)⟩
      generalize hc2 : c1.with (fun b => L.ownBlock = some b) = c2 at hxb hms hag hok
      subst hL
      have Hm := Lib.hid (made_any _ hsv c2.F _ l k wr hok.fl hag)
      have H1 := Lib.hid hxb
      have Hm1 := Lib.hid hms
      have Hag := Lib.hid hag
      clear hd0 hre hl hxb hms hag hok hsv hc2
      obtain ⟨r0, r1, r2, r3, r4, r5, r6, r7, r8, r9, r10⟩ := five_facts H1.out.na
      obtain ⟨q0, q1, q2, q3, q4, q5, q6, q7, q8, q9, q10⟩ := five_facts Hsb.out
      go_wp2_with fail
      refine Hm.out.mono ?_
      rintro e w2 ⟨hb2, rfl⟩
      have H3 := Lib.hid (H1.out.below hb2)
      have Hm3 := Lib.hid (Hm1.out.below hb2)
      have Hag3 := Lib.hid (Hag.out.below hb2)
      clear hb2 H1 Hm1 Hag Hm Hsb r0 r1 r2 r3 r4 r5 r6 r7 r8 r9 r10 q0 q1 q2 q3 q4 q5 q6 q7 q8 q9 q10
      obtain ⟨s0, s1, s2, s3, s4, s5, s6, s7, s8, s9, s10⟩ := five_facts H3.out.vb
      obtain ⟨d0, d1, d2, d3, d4, d5, d6⟩ := three_facts H3.out.fc
      by_cases hck : checkV (.mk 4 0 ⟨#[]⟩ acc []) = true
      · rw [if_pos hck]
        have Hck := Lib.hid hck
        have Hfin : Hid (res = .ok (.mk 4 0 ⟨#[]⟩ acc []) st1) := Lib.hid (by rw [Hre2.out]; unfold eMade; rw [if_pos hck]; rfl)
        unfold faultV
        clear hck Hre2
        go_wp2_with fail
        refine bodyPost_ret (v := .tuple #[.agg #[.int .i64 4, .int .i64 0, .string ⟨#[]⟩, .slice aL acc.length capL, .slice none 0 0], faultV 0 0 0]) (by simp [faultV, results, Tryz.results108, go_sem, s0, s1, s2, s3, s4, s5, d0, d1, d2, d3]) rfl ?_
        have H4 := H3.out.setV (.int .i64 4) (.int .i64 0) (.string ⟨#[]⟩) (.slice aL acc.length capL) (.slice none 0 0)
        have Hm4 := H3.out.msV Hm3.out (.int .i64 4) (.int .i64 0) (.string ⟨#[]⟩) (.slice aL acc.length capL) (.slice none 0 0)
        have Ha4 := H3.out.aggV Hag3.out (.int .i64 4) (.int .i64 0) (.string ⟨#[]⟩) (.slice aL acc.length capL) (.slice none 0 0)
        rw [Hfin.out]
        exact ⟨c2, (H4.setF (.int .i64 0) (.int .i64 0) (.int .i64 0)).mv, H4.msF Hm4 (.int .i64 0) (.int .i64 0) (.int .i64 0), _, rfl, [_, _, _, _, _], rfl, H4.aggF Ha4 (.int .i64 0) (.int .i64 0) (.int .i64 0), Hck.out⟩
      · rw [if_neg hck]
        have Hfin : Hid (res = .err 6 l k) := Lib.hid (by rw [Hre2.out]; unfold eMade; rw [if_neg hck]; rfl)
        unfold badV zeroV faultV
        clear hck Hre2
        go_wp2_with fail
        refine bodyPost_ret (v := badV 6 l k) (by simp [badV, zeroV, faultV, results, Tryz.results108, go_sem, s0, s1, s2, s3, s4, s5, d0, d1, d2, d3]) rfl ?_
        rw [Hfin.out]
        exact ⟨c2, ((H3.out.setV (.int .i64 0) (.int .i64 0) (.string ⟨#[]⟩) (.slice none 0 0) (.slice none 0 0)).setF (.int .i64 6) (.int .i64 l) (.int .i64 k)).mv, rfl⟩
end Go.Proofs.YtmmflgbhgjefmaaGreatDoor
namespace Go.Proofs.YtmmflgbhgjefmaaGreatDoor
open Go Go.RowKit

set_option maxRecDepth 100000 in
set_option maxHeartbeats 4000000 in
theorem op_does {mp mb : Nat} {hv : Value} {ex : Nd → EM Vl} (hnz : ∀ n st x y z, ex n st = .err x y z → x ≠ 0) (hx : XDoes 79 mp mb hv ex) : XDoes 111 mp mb hv (eOp ex) := by
  intro G c w st n v hm hG hn hsn hne
  obtain ⟨kk, t, l, k, kids⟩ := n
  obtain ⟨a, cap, rfl, hr⟩ := hn.open
  by_cases ht : t.data.toList = [43]
  case neg => exact absurd (by unfold eOp; rw [if_neg (show ¬ (Nd.text (.mk kk t l k kids)).data.toList = [43] from ht)]; rfl) hne
  obtain ⟨res, hres⟩ : ∃ res, res = eOp ex (.mk kk t l k kids) st := ⟨_, rfl⟩
  rw [← hres] at hne ⊢
  have Hres : Hid (res = EM.bind (ex (kidN (.mk kk t l k kids) 0)) (fun a => EM.bind (ex (kidN (.mk kk t l k kids) 1)) fun b => eSum a b l k) st) := Lib.hid (by rw [hres]; unfold eOp; rw [if_pos (show (Nd.text (.mk kk t l k kids)).data.toList = [43] from ht)]; rfl)
  have Hne := Lib.hid hne
  have Hx := Lib.hid hx
  have Hnz := Lib.hid hnz
  have Ht := Lib.hid ht
  have Hs0 := Lib.hid (smallN_kid hsn 0)
  have Hs1 := Lib.hid (smallN_kid hsn 1)
  have hlen : kids.length ≤ 140737488355328 := by rw [smallN] at hsn; omega
  have Hlen := Lib.hid hlen
  have hnot : (t.toList == [110, 111, 116]) = false := by rw [Lib.toList_data, ht]; rfl
  have hb0 := (alloc3 w (.cells #[.int .i64 kk, .string t, .int .i64 l, .int .i64 k, .slice a kids.length cap] 51) (.cells #[.int .i64 0, .int .i64 0, .string ⟨#[]⟩, .slice none 0 0, .slice none 0 0] 31) (.cells #[.int .i64 0, .int .i64 0, .int .i64 0] 89)).2.2.2.1
  have H0 := Lib.hid (XB.start hm.ok #[.int .i64 kk, .string t, .int .i64 l, .int .i64 k, .slice a kids.length cap] #[.int .i64 0, .int .i64 0, .string ⟨#[]⟩, .slice none 0 0, .slice none 0 0] #[.int .i64 0, .int .i64 0, .int .i64 0])
  have Hm0 := Lib.hid (hm.below hb0)
  have HG0 := Lib.hid (hG.mv (.of_below c hb0))
  have Hr0 := Lib.hid (hr.below hb0)
  have Hk : Hid (Calls Tryz.prog 80 #[.agg #[.int .i64 kk, .string t, .int .i64 l, .int .i64 k, .slice a kids.length cap], .int .i64 0] (((w.alloc (.cells #[.int .i64 kk, .string t, .int .i64 l, .int .i64 k, .slice a kids.length cap] 51)).alloc (.cells #[.int .i64 0, .int .i64 0, .string ⟨#[]⟩, .slice none 0 0, .slice none 0 0] 31)).alloc (.cells #[.int .i64 0, .int .i64 0, .int .i64 0] 89)) (PKid G (kidN (.mk kk t l k kids) 0) (((w.alloc (.cells #[.int .i64 kk, .string t, .int .i64 l, .int .i64 k, .slice a kids.length cap] 51)).alloc (.cells #[.int .i64 0, .int .i64 0, .string ⟨#[]⟩, .slice none 0 0, .slice none 0 0] 31)).alloc (.cells #[.int .i64 0, .int .i64 0, .int .i64 0] 89)))) := Lib.hid (kid_any G kk t l k kids a cap 0 _ (by omega) (by omega) hlen Hr0.out)
  generalize hx0 : kidN (.mk kk t l k kids) 0 = x0 at Hk Hs0 Hres
  generalize hx1 : kidN (.mk kk t l k kids) 1 = x1 at Hs1 Hres
  have Hx1 := Lib.hid hx1
  clear hres hne hx hnz ht hsn hlen hb0 hm hG hr hn hx0 hx1
  unfold ptr
  go_enter Tryz.func111, Tryz.ntmps111
  go_wp2_with fail
  refine Hk.out.mono ?_
  rintro e w1 ⟨v1, rfl, hn1, hb1⟩
  have H1 := Lib.hid (H0.out.below hb1)
  have Hr1 := Lib.hid (Hr0.out.below hb1)
  have HG1 := Lib.hid (HG0.out.mv (.of_below c hb1))
  have hn0 : ex x0 st ≠ .out := fun h => Hne.out (by rw [Hres.out, ebind_out h])
  have Hc := Lib.hid (Hx.out G c w1 st x0 v1 (Hm0.out.below hb1) HG1.out hn1 Hs0.out hn0)
  unfold ptr at Hc
  clear hb1 hn1 hn0 Hk H0 Hm0 HG0 Hr0 Hs0
  go_wp2_with fail
  refine Hc.out.mono ?_
  rintro e w2 ⟨c2, hmv, hq⟩
  clear Hc
  cases hxx : ex x0 st with
  | out => exact absurd hxx (fun h => Hne.out (by rw [Hres.out, ebind_out h]))
  | err x y z =>
    rw [hxx] at hq
    obtain rfl := hq
    have Hfin : Hid (res = .err x y z) := Lib.hid (by rw [Hres.out, ebind_err hxx])
    have hxz := Hnz.out _ _ _ _ _ hxx
    have hxz' : (x == 0) = false := by simpa using hxz
    have H2' := Lib.hid (H1.out.later hmv)
    clear hxx Hres H1 hmv Hr1 HG1
    unfold badV zeroV faultV
    go_upto_region 3 with fail
    have hb1 : Below w2.heap.size w2 ((w2.alloc (.cells #[.int .i64 0, .int .i64 0, .string ⟨#[]⟩, .slice none 0 0, .slice none 0 0] 31)).alloc (.cells #[.int .i64 x, .int .i64 y, .int .i64 z] 89)) := ((Below.refl _ w2).alloc (Nat.le_refl _) _).alloc (by simp) _
    have Hf := Lib.hid (heap_alloc_new (w2.alloc (.cells #[.int .i64 0, .int .i64 0, .string ⟨#[]⟩, .slice none 0 0, .slice none 0 0] 31)) (.cells #[.int .i64 x, .int .i64 y, .int .i64 z] 89))
    rw [show (w2.alloc (.cells #[.int .i64 0, .int .i64 0, .string ⟨#[]⟩, .slice none 0 0, .slice none 0 0] 31)).heap.size = w2.heap.size + 1 by simp] at Hf
    have H2 := Lib.hid (H2'.out.below hb1)
    have hsz := H2'.out.size
    generalize World.alloc (World.alloc _ _) _ = W at H2 Hf ⊢
    generalize hfb : w2.heap.size + 1 = fb at Hf hsz ⊢
    have hsz : w.heap.size + 3 ≤ fb := by omega
    clear hb1 H2' hfb
    refine wp_region_turns (.s 0 (.s 1 (.h 2 (.h 3 .nil)))) 99 (fun W' => W'.heap[fb]? = some (.cells #[.int .i64 x, .int .i64 y, .int .i64 z] 89 (0, 0))) (by kernel_rfl) (by kernel_rfl) (fun c a d v w h => by cases d <;> exact h) Hf.out ?_
    have H5 := Lib.hid (H2.out.below ((Below.refl _ W).drew))
    have Hf5 : Hid (W.drew.heap[fb]? = some (.cells #[.int .i64 x, .int .i64 y, .int .i64 z] 89 (0, 0))) := Lib.hid Hf.out
    generalize W.drew = Wd at H5 Hf5 ⊢
    clear H2 Hf
    refine turn_steady (.agg #[.int .i64 0, .int .i64 0, .string ⟨#[]⟩, .slice none 0 0, .slice none 0 0]) rfl rfl (fun W' hS => ?_) ?_
    · go_simp
    try simp only [List.getElem_toArray, List.getElem_cons_succ, List.getElem_cons_zero, Act.put, List.setIfInBounds_toArray, List.set_cons_zero, List.set_cons_succ]
    refine turn_steady (.agg #[.int .i64 x, .int .i64 y, .int .i64 z]) rfl rfl (fun W' hS => ?_) ?_
    · obtain ⟨s0, s1, s2, s3, s4, s5, s6⟩ := three_facts hS
      clear hS
      go_simp
    try simp only [List.getElem_toArray, List.getElem_cons_succ, List.getElem_cons_zero, Act.put, List.setIfInBounds_toArray, List.set_cons_zero, List.set_cons_succ]
    obtain ⟨s0, s1, s2, s3, s4, s5, s6, s7, s8, s9, s10⟩ := five_facts H5.out.vb
    refine turn_heavy rfl (fun Kx hKx => ?_)
    go_wp2_with fail
    have H6 := Lib.hid (H5.out.setV (.int .i64 0) (.int .i64 0) (.string ⟨#[]⟩) (.slice none 0 0) (.slice none 0 0))
    have Hf6 := Lib.hid ((set5_other (W := Wd) (b := w.heap.size + 1) (k := fb) (by omega) (.int .i64 0) (.int .i64 0) (.string ⟨#[]⟩) (.slice none 0 0) (.slice none 0 0)).trans Hf5.out)
    unfold set5 at H6
    refine hKx _ _ (fun _ => Hf6.out) ?_
    generalize World.setCell _ _ _ = W6 at H6 Hf6 ⊢
    try simp only [List.getElem_toArray, List.getElem_cons_succ, List.getElem_cons_zero, Act.put, List.setIfInBounds_toArray, List.set_cons_zero, List.set_cons_succ]
    clear s0 s1 s2 s3 s4 s5 s6 s7 s8 s9 s10 hKx H5 Hf5
    obtain ⟨d0, d1, d2, d3, d4, d5, d6⟩ := three_facts H6.out.fc
    refine turn_heavy rfl (fun Ky hKy => ?_)
    go_wp2_with fail
    have H7 := Lib.hid (H6.out.setF (.int .i64 x) (.int .i64 y) (.int .i64 z))
    unfold set3 at H7
    refine hKy _ _ (fun _ => ((((set_other (by omega) 2 _).trans (set_other (by omega) 1 _)).trans (set_other (by omega) 0 _)).trans Hf6.out)) ?_
    generalize World.setCell _ _ _ = W7 at H7 ⊢
    refine turn_end ?_
    try simp only [List.getElem_toArray, List.getElem_cons_succ, List.getElem_cons_zero, Act.put, List.setIfInBounds_toArray, List.set_cons_zero, List.set_cons_succ]
    clear d0 d1 d2 d3 d4 d5 d6 hKy H6 Hf6
    obtain ⟨s0, s1, s2, s3, s4, s5, s6, s7, s8, s9, s10⟩ := five_facts H7.out.vb
    obtain ⟨d0, d1, d2, d3, d4, d5, d6⟩ := three_facts H7.out.fc
    go_wp2_with fail
    refine bodyPost_ret (v := badV x y z) (by simp [badV, zeroV, faultV, results, Tryz.results111, go_sem, s0, s1, s2, s3, s4, s5, d0, d1, d2, d3]) rfl ?_
    rw [Hfin.out]
    exact ⟨_, H7.out.mv, rfl⟩
  | ok xa st2 =>
    rw [hxx] at hq
    obtain ⟨hms2, v2, rfl, cs, rfl, hagg, hcka⟩ := hq
    have Hres2 : Hid (res = EM.bind (ex x1) (fun b => eSum xa b l k) st2) := Lib.hid (by rw [Hres.out, ebind_ok hxx])
    obtain ⟨yk, yn, ys, yl, yks⟩ := xa
    obtain ⟨b1, e1, b2, e2, rfl, -, -⟩ := hagg.val
    have hbw : Below w2.heap.size w2 ((w2.alloc (.cells #[.int .i64 yk, .int .i64 yn, .string ys, .slice b1 yl.length e1, .slice b2 yks.length e2] 31)).alloc (.cells #[.int .i64 0, .int .i64 0, .int .i64 0] 89)) := ((Below.refl _ w2).alloc (Nat.le_refl _) _).alloc (by simp) _
    have Ha6 := Lib.hid ((Below.heap_alloc _ _ _ (by simp)).trans (heap_alloc_new w2 (.cells #[.int .i64 yk, .int .i64 yn, .string ys, .slice b1 yl.length e1, .slice b2 yks.length e2] 31)) : ((w2.alloc (.cells #[.int .i64 yk, .int .i64 yn, .string ys, .slice b1 yl.length e1, .slice b2 yks.length e2] 31)).alloc (.cells #[.int .i64 0, .int .i64 0, .int .i64 0] 89)).heap[w2.heap.size]? = _)
    have Hf7 := Lib.hid (heap_alloc_new (w2.alloc (.cells #[.int .i64 yk, .int .i64 yn, .string ys, .slice b1 yl.length e1, .slice b2 yks.length e2] 31)) (.cells #[.int .i64 0, .int .i64 0, .int .i64 0] 89))
    rw [show (w2.alloc (.cells #[.int .i64 yk, .int .i64 yn, .string ys, .slice b1 yl.length e1, .slice b2 yks.length e2] 31)).heap.size = w2.heap.size + 1 by simp] at Hf7
    have hxb := H1.out.later hmv
    have H2 := Lib.hid (hxb.below hbw)
    have Hm2 := Lib.hid (hms2.below hbw)
    have Hag2 := Lib.hid (hagg.below hbw)
    have HG2 := Lib.hid ((HG1.out.mv hmv).mv (.of_below c2 hbw))
    have Hr2 := Lib.hid ((Hr1.out.gmv HG1.out hmv).below hbw)
    have Hnm : Hid (w.heap.size + 3 ≤ w2.heap.size ∧ ∀ b, w2.heap.size ≤ b → ¬ c2.M b ∧ ¬ c2.F b) := Lib.hid ⟨hxb.size, fun b hb => ⟨fun h => by have := hms2.ok.ml b h; omega, fun h => by have := hms2.ok.fl b h; omega⟩⟩
    have Hcka := Lib.hid hcka
    clear hxx Hres H1 hmv Hr1 HG1 hms2 hagg hcka hbw hxb
    unfold faultV
    go_upto_region 4 with fail
    generalize World.alloc (World.alloc _ _) _ = W at H2 Hm2 Hag2 HG2 Hr2 Ha6 Hf7 ⊢
    generalize hb7 : w2.heap.size + 1 = fb at Hf7 ⊢
    generalize hb6 : w2.heap.size = b6 at Ha6 Hnm hb7 ⊢
    have Hbs := Lib.hid (And.intro hb7 hb6)
    have Hk : Hid (Calls Tryz.prog 80 #[.agg #[.int .i64 kk, .string t, .int .i64 l, .int .i64 k, .slice a kids.length cap], .int .i64 1] W (PKid G x1 W)) := Lib.hid (by rw [← Hx1.out]; exact kid_any G kk t l k kids a cap 1 _ (by omega) (by omega) Hlen.out Hr2.out)
    clear hb7 hb6
    obtain ⟨r0, r1, r2, r3, r4, r5, r6, r7, r8, r9, r10⟩ := five_facts H2.out.na
    go_wp2_with fail
    refine Hk.out.mono ?_
    rintro e w3 ⟨v3, rfl, hn3, hb3⟩
    have H3 := Lib.hid (H2.out.below hb3)
    have Hm3 := Lib.hid (Hm2.out.below hb3)
    have Hag3 := Lib.hid (Hag2.out.below hb3)
    have HG3 := Lib.hid (HG2.out.mv (.of_below c2 hb3))
    have Ha3 := Lib.hid ((hb3.block _ (Array.getElem?_eq_some_iff.1 Ha6.out).1).trans Ha6.out)
    have Hf3 := Lib.hid ((hb3.block _ (Array.getElem?_eq_some_iff.1 Hf7.out).1).trans Hf7.out)
    have hn0 : ex x1 st2 ≠ .out := fun h => Hne.out (by rw [Hres2.out, ebind_out h])
    have Hc := Lib.hid (Hx.out G c2 w3 st2 x1 v3 Hm3.out HG3.out hn3 Hs1.out hn0)
    unfold ptr at Hc
    clear hb3 hn3 hn0 Hk H2 Hm2 Hag2 HG2 Hr2 Hs1 Ha6 Hf7 r0 r1 r2 r3 r4 r5 r6 r7 r8 r9 r10
    go_wp2_with fail
    refine Hc.out.mono ?_
    rintro e w4 ⟨c4, hmv4, hq⟩
    have H4 := Lib.hid (H3.out.later hmv4.join)
    have Hag4 := Lib.hid (Hag3.out.join Hm3.out.ok hmv4)
    have Ha4 := Lib.hid ((hmv4.block _ (Array.getElem?_eq_some_iff.1 Ha3.out).1 (Hnm.out.2 _ (by have := Hbs.out; omega)).1).trans Ha3.out)
    have Hf4 := Lib.hid ((hmv4.block _ (Array.getElem?_eq_some_iff.1 Hf3.out).1 (Hnm.out.2 _ (by have := Hbs.out; omega)).1).trans Hf3.out)
    have Hn4 : Hid (w.heap.size + 3 ≤ fb ∧ ¬ (c4.with c2.F).M fb ∧ ¬ (c4.with c2.F).F fb) := Lib.hid (by
      have h1 := Hnm.out.1
      have h2 := Hbs.out
      have h3 := Hnm.out.2 fb (by omega)
      have h4 := (Array.getElem?_eq_some_iff.1 Hf3.out).1
      exact ⟨by omega, fun h => by rcases hmv4.m _ h with h | h; exact h3.1 h; omega, fun h => by rcases h with h | h; (rcases hmv4.f _ h with h | h; exact h3.2 h; omega); exact h3.2 h⟩)
    clear Hc Ha3 Hf3 HG3 Hag3 Hnm
    cases hxx : ex x1 st2 with
    | out => exact absurd hxx (fun h => Hne.out (by rw [Hres2.out, ebind_out h]))
    | err x y z =>
      rw [hxx] at hq
      obtain rfl := hq
      have Hfin : Hid (res = .err x y z) := Lib.hid (by rw [Hres2.out, ebind_err hxx])
      have hxz := Hnz.out _ _ _ _ _ hxx
      have hxz' : (x == 0) = false := by simpa using hxz
      clear hxx Hres2 hmv4 Hm3 H3 Hag4
      obtain ⟨p0, p1, p2, p3, p4, p5, p6⟩ := three_facts Hf4.out
      unfold badV zeroV faultV
      go_upto_region 8 with fail
      have hH2 := (H4.out.setO Hn4.out.1 (.int .i64 x) (.int .i64 y) (.int .i64 z)).below ((Below.refl _ _).alloc (Nat.le_refl _) (.cells #[.int .i64 0, .int .i64 0, .string ⟨#[]⟩, .slice none 0 0, .slice none 0 0] 31))
      have hHf : ((set3 w4 fb (.int .i64 x) (.int .i64 y) (.int .i64 z)).alloc (.cells #[.int .i64 0, .int .i64 0, .string ⟨#[]⟩, .slice none 0 0, .slice none 0 0] 31)).heap[fb]? = some (.cells #[.int .i64 x, .int .i64 y, .int .i64 z] 89 (0, 0)) := by
        rw [Below.heap_alloc _ _ _ (by unfold set3; simpa using p0)]
        unfold set3
        rw [set_same (set_same (set_same Hf4.out 0 (.int .i64 x)) 1 (.int .i64 y)) 2 (.int .i64 z)]
        rfl
      unfold set3 at hH2 hHf
      have H2 := Lib.hid hH2
      have Hf := Lib.hid hHf
      have hsz := Hn4.out.1
      generalize World.alloc _ _ = W' at H2 Hf ⊢
      clear hH2 hHf p0 p1 p2 p3 p4 p5 p6 H4 Hf4 Hn4 Ha4
      refine wp_region_turns (.s 0 (.s 1 (.h 2 (.h 3 .nil)))) 99 (fun WW => WW.heap[fb]? = some (.cells #[.int .i64 x, .int .i64 y, .int .i64 z] 89 (0, 0))) (by kernel_rfl) (by kernel_rfl) (fun c a d v w h => by cases d <;> exact h) Hf.out ?_
      have H5 := Lib.hid (H2.out.below ((Below.refl _ W').drew))
      have Hf5 : Hid (W'.drew.heap[fb]? = some (.cells #[.int .i64 x, .int .i64 y, .int .i64 z] 89 (0, 0))) := Lib.hid Hf.out
      generalize W'.drew = Wd at H5 Hf5 ⊢
      clear H2 Hf
      refine turn_steady (.agg #[.int .i64 0, .int .i64 0, .string ⟨#[]⟩, .slice none 0 0, .slice none 0 0]) rfl rfl (fun W' hS => ?_) ?_
      · go_simp
      try simp only [List.getElem_toArray, List.getElem_cons_succ, List.getElem_cons_zero, Act.put, List.setIfInBounds_toArray, List.set_cons_zero, List.set_cons_succ]
      refine turn_steady (.agg #[.int .i64 x, .int .i64 y, .int .i64 z]) rfl rfl (fun W' hS => ?_) ?_
      · obtain ⟨s0, s1, s2, s3, s4, s5, s6⟩ := three_facts hS
        clear hS
        go_simp
      try simp only [List.getElem_toArray, List.getElem_cons_succ, List.getElem_cons_zero, Act.put, List.setIfInBounds_toArray, List.set_cons_zero, List.set_cons_succ]
      obtain ⟨s0, s1, s2, s3, s4, s5, s6, s7, s8, s9, s10⟩ := five_facts H5.out.vb
      refine turn_heavy rfl (fun Kx hKx => ?_)
      go_wp2_with fail
      have H6 := Lib.hid (H5.out.setV (.int .i64 0) (.int .i64 0) (.string ⟨#[]⟩) (.slice none 0 0) (.slice none 0 0))
      have Hf6 := Lib.hid ((set5_other (W := Wd) (b := w.heap.size + 1) (k := fb) (by omega) (.int .i64 0) (.int .i64 0) (.string ⟨#[]⟩) (.slice none 0 0) (.slice none 0 0)).trans Hf5.out)
      unfold set5 at H6
      refine hKx _ _ (fun _ => Hf6.out) ?_
      generalize World.setCell _ _ _ = W6 at H6 Hf6 ⊢
      try simp only [List.getElem_toArray, List.getElem_cons_succ, List.getElem_cons_zero, Act.put, List.setIfInBounds_toArray, List.set_cons_zero, List.set_cons_succ]
      clear s0 s1 s2 s3 s4 s5 s6 s7 s8 s9 s10 hKx H5 Hf5
      obtain ⟨d0, d1, d2, d3, d4, d5, d6⟩ := three_facts H6.out.fc
      refine turn_heavy rfl (fun Ky hKy => ?_)
      go_wp2_with fail
      have H7 := Lib.hid (H6.out.setF (.int .i64 x) (.int .i64 y) (.int .i64 z))
      unfold set3 at H7
      refine hKy _ _ (fun _ => ((((set_other (by omega) 2 _).trans (set_other (by omega) 1 _)).trans (set_other (by omega) 0 _)).trans Hf6.out)) ?_
      generalize World.setCell _ _ _ = W7 at H7 ⊢
      refine turn_end ?_
      try simp only [List.getElem_toArray, List.getElem_cons_succ, List.getElem_cons_zero, Act.put, List.setIfInBounds_toArray, List.set_cons_zero, List.set_cons_succ]
      clear d0 d1 d2 d3 d4 d5 d6 hKy H6 Hf6
      obtain ⟨s0, s1, s2, s3, s4, s5, s6, s7, s8, s9, s10⟩ := five_facts H7.out.vb
      obtain ⟨d0, d1, d2, d3, d4, d5, d6⟩ := three_facts H7.out.fc
      go_wp2_with fail
      refine bodyPost_ret (v := badV x y z) (by simp [badV, zeroV, faultV, results, Tryz.results111, go_sem, s0, s1, s2, s3, s4, s5, d0, d1, d2, d3]) rfl ?_
      rw [Hfin.out]
      exact ⟨_, H7.out.mv, rfl⟩
    | ok xb st4 =>
      rw [hxx] at hq
      obtain ⟨hms4, v4, rfl, cs4, rfl, haggb, hckb⟩ := hq
      have Hres3 : Hid (res = eSum (.mk yk yn ys yl yks) xb l k st4) := Lib.hid (by rw [Hres2.out, ebind_ok hxx])
      have hsm : (smallInt (.mk yk yn ys yl yks) && smallInt xb) = true := by
        cases hs : (smallInt (.mk yk yn ys yl yks) && smallInt xb)
        · exact absurd (by rw [Hres3.out]; unfold eSum; rw [hs]; rfl) Hne.out
        · rfl
      have Hfin : Hid (res = .ok (.mk 2 (yn + xb.num) ⟨#[]⟩ [] []) st4) := Lib.hid (by rw [Hres3.out]; unfold eSum; rw [if_pos hsm]; rfl)
      rw [Bool.and_eq_true] at hsm
      obtain ⟨zk, zn, zs, zl, zks⟩ := xb
      obtain ⟨b3, e3, b4, e4, rfl, -, -⟩ := haggb.val
      have hms5 := ((Hm3.out.join hmv4 hms4).setO Hn4.out.2 (.int .i64 0) (.int .i64 0) (.int .i64 0)).below ((Below.refl _ _).alloc (Nat.le_refl _) (.cells #[.int .i64 zk, .int .i64 zn, .string zs, .slice b3 zl.length e3, .slice b4 zks.length e4] 31))
      have hxb5 := (H4.out.setO Hn4.out.1 (.int .i64 0) (.int .i64 0) (.int .i64 0)).below ((Below.refl _ _).alloc (Nat.le_refl _) (.cells #[.int .i64 zk, .int .i64 zn, .string zs, .slice b3 zl.length e3, .slice b4 zks.length e4] 31))
      have haa5 := (Hag4.out.setO Hn4.out.2.2 (.int .i64 0) (.int .i64 0) (.int .i64 0)).below ((Below.refl _ _).alloc (Nat.le_refl _) (.cells #[.int .i64 zk, .int .i64 zn, .string zs, .slice b3 zl.length e3, .slice b4 zks.length e4] 31))
      have hab5 := ((haggb.wider (G := (c4.with c2.F).F) (fun b h _ => .inl h)).setO Hn4.out.2.2 (.int .i64 0) (.int .i64 0) (.int .i64 0)).below ((Below.refl _ _).alloc (Nat.le_refl _) (.cells #[.int .i64 zk, .int .i64 zn, .string zs, .slice b3 zl.length e3, .slice b4 zks.length e4] 31))
      have h65 : ((set3 w4 fb (.int .i64 0) (.int .i64 0) (.int .i64 0)).alloc (.cells #[.int .i64 zk, .int .i64 zn, .string zs, .slice b3 zl.length e3, .slice b4 zks.length e4] 31)).heap[b6]? = some (.cells #[.int .i64 yk, .int .i64 yn, .string ys, .slice b1 yl.length e1, .slice b2 yks.length e2] 31 (0, 0)) := by
        have h1 := Hbs.out
        rw [Below.heap_alloc _ _ _ (by unfold set3; simpa using (Array.getElem?_eq_some_iff.1 Ha4.out).1)]
        unfold set3
        rw [set_other (by omega), set_other (by omega), set_other (by omega)]
        exact Ha4.out
      have h75 : ((set3 w4 fb (.int .i64 0) (.int .i64 0) (.int .i64 0)).alloc (.cells #[.int .i64 zk, .int .i64 zn, .string zs, .slice b3 zl.length e3, .slice b4 zks.length e4] 31)).heap[fb]? = some (.cells #[.int .i64 0, .int .i64 0, .int .i64 0] 89 (0, 0)) := by
        rw [Below.heap_alloc _ _ _ (by unfold set3; simpa using (Array.getElem?_eq_some_iff.1 Hf4.out).1)]
        unfold set3
        rw [set_same (set_same (set_same Hf4.out 0 (.int .i64 0)) 1 (.int .i64 0)) 2 (.int .i64 0)]
        rfl
      have h85 : ((set3 w4 fb (.int .i64 0) (.int .i64 0) (.int .i64 0)).alloc (.cells #[.int .i64 zk, .int .i64 zn, .string zs, .slice b3 zl.length e3, .slice b4 zks.length e4] 31)).heap[w4.heap.size]? = some (.cells #[.int .i64 zk, .int .i64 zn, .string zs, .slice b3 zl.length e3, .slice b4 zks.length e4] 31 (0, 0)) := by
        have := heap_alloc_new (set3 w4 fb (.int .i64 0) (.int .i64 0) (.int .i64 0)) (.cells #[.int .i64 zk, .int .i64 zn, .string zs, .slice b3 zl.length e3, .slice b4 zks.length e4] 31)
        rwa [show (set3 w4 fb (.int .i64 0) (.int .i64 0) (.int .i64 0)).heap.size = w4.heap.size by unfold set3; simp] at this
      unfold set3 at hms5 hxb5 haa5 hab5 h65 h75 h85
      have H5 := Lib.hid hxb5
      have Hm5 := Lib.hid hms5
      have Haa := Lib.hid haa5
      have Hab := Lib.hid hab5
      have H65 := Lib.hid h65
      have H75 := Lib.hid h75
      have H85 := Lib.hid h85
      obtain ⟨p0, p1, p2, p3, p4, p5, p6⟩ := three_facts Hf4.out
      clear hms5 hxb5 haa5 hab5 h65 h75 h85 hxx Hres2 Hres3 hmv4 Hm3 H3 Hag4 hms4 haggb hckb
      unfold faultV
      go_upto_region 7 with fail
      generalize World.alloc _ _ = W' at H5 Hm5 Haa Hab H65 H75 H85 ⊢
      have Hop : Hid (Calls Tryz.prog 134 #[.string t, .agg #[.int .i64 yk, .int .i64 yn, .string ys, .slice b1 yl.length e1, .slice b2 yks.length e2], .agg #[.int .i64 zk, .int .i64 zn, .string zs, .slice b3 zl.length e3, .slice b4 zks.length e4]] W' (PSum (yn + zn) W')) := Lib.hid (op_small t Ht.out (.mk yk yn ys yl yks) (.mk zk zn zs zl zks) hsm.1 hsm.2 (c4.with c2.F).F _ _ W' Hm5.out.ok.fl Haa.out Hab.out)
      have Hfin : Hid (res = .ok (.mk 2 (yn + zn) ⟨#[]⟩ [] []) st4) := Hfin
      clear hsm p0 p1 p2 p3 p4 p5 p6 Haa Hab H4 Hf4 Ha4 Hn4 Hbs
      obtain ⟨p0, p1, p2, p3, p4, p5, p6⟩ := three_facts H75.out
      obtain ⟨q0, q1, q2, q3, q4, q5, q6, q7, q8, q9, q10⟩ := five_facts H65.out
      obtain ⟨u0, u1, u2, u3, u4, u5, u6, u7, u8, u9, u10⟩ := five_facts H85.out
      obtain ⟨r0, r1, r2, r3, r4, r5, r6, r7, r8, r9, r10⟩ := five_facts H5.out.na
      go_wp2_with fail
      refine Hop.out.mono ?_
      rintro e w6 ⟨rfl, hb6⟩
      have H6 := Lib.hid (H5.out.below hb6)
      have Hm6 := Lib.hid (Hm5.out.below hb6)
      unfold sumC
      clear hb6 H5 Hm5 H65 H75 H85 Hop p0 p1 p2 p3 p4 p5 p6 q0 q1 q2 q3 q4 q5 q6 q7 q8 q9 q10 u0 u1 u2 u3 u4 u5 u6 u7 u8 u9 u10 r0 r1 r2 r3 r4 r5 r6 r7 r8 r9 r10
      obtain ⟨s0, s1, s2, s3, s4, s5, s6, s7, s8, s9, s10⟩ := five_facts H6.out.vb
      obtain ⟨d0, d1, d2, d3, d4, d5, d6⟩ := three_facts H6.out.fc
      go_wp2_with fail
      refine bodyPost_ret (v := .tuple #[.agg #[.int .i64 2, .int .i64 (yn + zn), .string ⟨#[]⟩, .slice none 0 0, .slice none 0 0], faultV 0 0 0]) (by simp [faultV, results, Tryz.results111, go_sem, s0, s1, s2, s3, s4, s5, d0, d1, d2, d3]) rfl ?_
      have H7 := H6.out.setV (.int .i64 2) (.int .i64 (yn + zn)) (.string ⟨#[]⟩) (.slice none 0 0) (.slice none 0 0)
      have Hm7 := H6.out.msV Hm6.out (.int .i64 2) (.int .i64 (yn + zn)) (.string ⟨#[]⟩) (.slice none 0 0) (.slice none 0 0)
      have H8 := H7.setF (.int .i64 0) (.int .i64 0) (.int .i64 0)
      have Hm8 := H7.msF Hm7 (.int .i64 0) (.int .i64 0) (.int .i64 0)
      have hbe := fun (W : World) => (Below.refl _ W).alloc (Nat.le_refl _) (.cells #[.int .i64 2, .int .i64 (yn + zn), .string ⟨#[]⟩, .slice none 0 0, .slice none 0 0] 31)
      rw [Hfin.out]
      exact ⟨_, (H8.below (hbe _)).mv, Hm8.below (hbe _), _, rfl, [_, _, _, _, _], rfl, AggAt.val_mk (l := []) (ks := []) _ _ _ _ _ (RowAt.nil _) (RowAt.nil _), checkV_int (yn + zn)⟩
end Go.Proofs.YtmmflgbhgjefmaaGreatDoor
namespace Go.Proofs.YtmmflgbhgjefmaaGreatDoor
open Go Go.RowKit

/-- An error has a number. -/
def ENz {α : Type} (m : EM α) : Prop := ∀ st x y z, m st = .err x y z → x ≠ 0
theorem ENz.bind {α β : Type} {m : EM α} {g : α → EM β} (hm : ENz m) (hg : ∀ a, ENz (g a)) : ENz (EM.bind m g) := by
  intro st x y z h
  cases hms : m st with
  | ok a st' => rw [ebind_ok hms] at h; exact hg _ _ _ _ _ h
  | err a b c => rw [ebind_err hms] at h; cases h; exact hm _ _ _ _ hms
  | out => rw [ebind_out hms] at h; cases h
theorem ENz.pure {α : Type} (x : α) : ENz (EM.pure x) := fun _ _ _ _ h => by cases h
theorem ENz.out {α : Type} : ENz (eOut : EM α) := fun _ _ _ _ h => by cases h
theorem ENz.fail {α : Type} {e : Int} (he : e ≠ 0) (l c : Int) : ENz (eFail e l c : EM α) := fun _ _ _ _ h => by cases h; exact he
theorem ENz.step (l c : Int) : ENz (eStep l c) := fun st x y z h => by
  unfold eStep at h
  split at h
  · cases h; decide
  · cases h
theorem ENz.put (s : ByteArray) (v : Vl) (l c : Int) : ENz (ePut s v l c) := fun st x y z h => by
  unfold ePut at h
  split at h
  · cases h; decide
  · cases h
theorem ENz.made (v : Vl) (l c : Int) : ENz (eMade v l c) := by
  unfold eMade
  split
  · exact .pure _
  · exact .fail (by decide) _ _
theorem ENz.items {ex : Nd → EM Vl} (hx : ∀ n, ENz (ex n)) : ∀ (l : List Nd) (acc : List Vl), ENz (eItems ex l acc)
  | [], acc => .pure acc
  | n :: t, acc => .bind (hx n) fun x => ENz.items hx t (acc ++ [x])
theorem ENz.sum (a b : Vl) (l c : Int) : ENz (eSum a b l c) := by
  unfold eSum
  split
  · exact .pure _
  · exact .out
theorem ENz.op {ex : Nd → EM Vl} (hx : ∀ n, ENz (ex n)) (n : Nd) : ENz (eOp ex n) := by
  unfold eOp
  split
  · exact .bind (hx _) fun a => .bind (hx _) fun b => .sum a b _ _
  · exact .out
theorem ENz.expr {ex : Nd → EM Vl} (hx : ∀ n, ENz (ex n)) (n : Nd) : ENz (eExpr ex n) := by
  refine .bind (.step _ _) fun _ => ?_
  intro st x y z h
  split at h
  · split at h
    · cases h
    · dsimp only at h
      split at h
      · cases h
      · cases h; decide
  · split at h
    · split at h <;> cases h
    · split at h
      · exact ENz.bind (ENz.items hx n.kids []) (fun l => ENz.made _ _ _) st x y z h
      · split at h
        · exact ENz.op hx n st x y z h
        · cases h
theorem ENz.exprs : ∀ (f : Nat) (n : Nd), ENz (eExprs f n)
  | 0, _ => .out
  | f + 1, n => ENz.expr (ENz.exprs f) n

/-- The evaluator's expr does what the plain words say. -/
theorem exprs_does (mp mb : Nat) (hv : Value) : ∀ f, XDoes 79 mp mb hv (eExprs f)
  | 0 => fun _ _ _ _ _ _ _ _ _ _ hne => absurd rfl hne
  | f + 1 => expr_does (list_does (ENz.exprs f) (exprs_does mp mb hv f)) (op_does (ENz.exprs f) (exprs_does mp mb hv f))
end Go.Proofs.YtmmflgbhgjefmaaGreatDoor
namespace Go.Proofs.YtmmflgbhgjefmaaGreatDoor
open Go Go.RowKit

/-- A method of the machine that takes a node and hands back a fault. -/
def SDoes (f mp mb : Nat) (hv : Value) (sm : Nd → EM Unit) : Prop := ∀ (G : Nat → Prop) (c : Ctx) (w : World) (st : St) (n : Nd) (v : Value), MS c w mp mb hv st → GOk G c w → NodeV G w n v → smallN n → sm n st ≠ .out →
  Calls Tryz.prog f #[ptr mp, v] w (EP mp mb hv EUnit faultV c (sm n st) w)
/-- A box of the call's own that holds its fault. -/
structure XF (c0 : Ctx) (w : World) (c : Ctx) (W : World) (b : Nat) (f : Array Value) : Prop where
  mv : Mv c0 w c W
  fc : W.heap[b]? = some (.cells f 89 (0, 0))
  new : w.heap.size ≤ b
  out : ¬ c.M b ∧ ¬ c.F b
section
variable {c0 c c' : Ctx} {w W W' : World} {b : Nat} {f : Array Value}
theorem XF.later (h : XF c0 w c W b f) (k : Mv c W c' W') : XF c0 w c' W' b f := by
  have hl := (Array.getElem?_eq_some_iff.1 h.fc).1
  refine ⟨h.mv.trans k, (k.block b hl h.out.1).trans h.fc, h.new, fun hm => ?_, fun hm => ?_⟩
  · rcases k.m b hm with h3 | h3
    · exact h.out.1 h3
    · omega
  · rcases k.f b hm with h3 | h3
    · exact h.out.2 h3
    · omega
theorem XF.below (h : XF c0 w c W b f) (k : Below W.heap.size W W') : XF c0 w c W' b f := h.later (.of_below c k)
theorem XF.setF {x0 x1 x2 : Value} (h : XF c0 w c W b #[x0, x1, x2]) (v0 v1 v2 : Value) : XF c0 w c (set3 W b v0 v1 v2) b #[v0, v1, v2] := by
  unfold set3
  refine ⟨((h.mv.set (.inl h.new) 0 _).set (.inl h.new) 1 _).set (.inl h.new) 2 _, ?_, h.new, h.out⟩
  rw [set_same (set_same (set_same h.fc 0 v0) 1 v1) 2 v2]
  rfl
end
set_option maxRecDepth 100000 in
set_option maxHeartbeats 2000000 in
theorem block_does {mp mb : Nat} {hv : Value} {sm : Nd → EM Unit} (hnz : ∀ n, ENz (sm n)) (hs : SDoes 48 mp mb hv sm) (G : Nat → Prop) (c : Ctx) (w : World) (st : St) (l : List Nd) (a : Option Addr) (cap : Nat)
    (hm : MS c w mp mb hv st) (hG : GOk G c w) (hr : RowAt G w a (nodesD l)) (hsn : smallNs l) (hlen : l.length ≤ 1000000) (hne : eBlock sm l st ≠ .out) :
    Calls Tryz.prog 36 #[ptr mp, .slice a l.length cap] w (EP mp mb hv EUnit faultV c (eBlock sm l st) w) := by
  have hb0 : Below w.heap.size w (w.alloc (.cells #[.int .i64 0, .int .i64 0, .int .i64 0] 89)) := (Below.refl _ w).alloc (Nat.le_refl _) _
  have H0 : Hid (XF c w c (w.alloc (.cells #[.int .i64 0, .int .i64 0, .int .i64 0] 89)) w.heap.size #[.int .i64 0, .int .i64 0, .int .i64 0]) := Lib.hid ⟨.of_below c hb0, heap_alloc_new w _, Nat.le_refl _, fun h => by have := hm.ok.ml _ h; omega, fun h => by have := hm.ok.fl _ h; omega⟩
  have Hm0 : Hid (MS c (w.alloc (.cells #[.int .i64 0, .int .i64 0, .int .i64 0] 89)) mp mb hv st ∧ GOk G c (w.alloc (.cells #[.int .i64 0, .int .i64 0, .int .i64 0] 89)) ∧ RowAt G (w.alloc (.cells #[.int .i64 0, .int .i64 0, .int .i64 0] 89)) a (nodesD l)) := Lib.hid ⟨hm.below hb0, hG.mv (.of_below c hb0), hr.below hb0⟩
  obtain ⟨res, hres⟩ : ∃ res, res = eBlock sm l st := ⟨_, rfl⟩
  rw [← hres] at hne ⊢
  have Hres : Hid (res = eBlock sm (l.drop 0) st) := Lib.hid hres
  have Hne := Lib.hid hne
  have Hs := Lib.hid hs
  have Hnz := Lib.hid hnz
  have Hsn := Lib.hid hsn
  clear hres hne hs hnz hsn hb0 hm hG hr
  unfold ptr
  go_enter Tryz.func36, Tryz.ntmps36
  go_wp2_with fail
  generalize World.alloc _ _ = W1 at H0 Hm0 ⊢
  go_loopw [10] (fun i wr => ∃ (j : Nat) (c1 : Ctx) (st1 : St), i = .int .i64 j ∧ j ≤ l.length ∧ Hid (XF c w c1 wr w.heap.size #[.int .i64 0, .int .i64 0, .int .i64 0]) ∧ Hid (MS c1 wr mp mb hv st1 ∧ GOk G c1 wr ∧ RowAt G wr a (nodesD l)) ∧ Hid (res = eBlock sm (l.drop j) st1)) (fun i _ => l.length - (intOf i).toNat)
  case atStart => exact ⟨0, c, st, rfl, Nat.zero_le _, H0, Hm0, Hres⟩
  case round =>
    obtain ⟨j, c1, st1, rfl, hj, hf, hms, hre⟩ := hrel
    by_cases hlt : j < l.length
    · cases hk : l[j] with
      | mk xk xt xl xc xs =>
        have hjx : l[j]? = some (.mk xk xt xl xc xs) := by rw [List.getElem?_eq_getElem hlt, hk]
        have hdrop : l.drop j = .mk xk xt xl xc xs :: l.drop (j + 1) := by rw [List.drop_eq_getElem_cons hlt, hk]
        obtain ⟨b, off, a1, c1', hae, -, hbl, r0, r1, r2, r3, r4, hr1⟩ := hms.out.2.2.node hjx
        have hnx : sm (.mk xk xt xl xc xs) st1 ≠ .out := fun h => Hne.out (by rw [hre.out, hdrop, eBlock, ebind_out h])
        have hbn : Below wr.heap.size wr (wr.alloc (.cells #[.int .i64 xk, .string xt, .int .i64 xl, .int .i64 xc, .slice a1 xs.length c1'] 51)) := (Below.refl _ wr).alloc (Nat.le_refl _) _
        have Hc := Lib.hid (Hs.out G c1 _ st1 (.mk xk xt xl xc xs) _ (hms.out.1.below hbn) (hms.out.2.1.mv (.of_below c1 hbn)) (NodeV.mk _ _ _ _ c1' (hr1.below hbn)) (smallNs_mem Hsn.out (List.mem_of_getElem? hjx)) hnx)
        have Hf1 := Lib.hid (hf.out.below hbn)
        have Hm1 : Hid (GOk G c1 (wr.alloc (.cells #[.int .i64 xk, .string xt, .int .i64 xl, .int .i64 xc, .slice a1 xs.length c1'] 51)) ∧ RowAt G (wr.alloc (.cells #[.int .i64 xk, .string xt, .int .i64 xl, .int .i64 xc, .slice a1 xs.length c1'] 51)) a (nodesD l)) := Lib.hid ⟨hms.out.2.1.mv (.of_below c1 hbn), hms.out.2.2.below hbn⟩
        have Hre : Hid (res = EM.bind (sm (.mk xk xt xl xc xs)) (fun _ => eBlock sm (l.drop (j + 1))) st1) := Lib.hid (by rw [hre.out, hdrop]; rfl)
        unfold ptr at Hc
        clear hk hjx hdrop hnx hbn hr1 hre hf hms
        subst hae
        go_wp2_with fail
        refine Hc.out.mono ?_
        rintro e w2 ⟨c2, hmv, hq⟩
        clear r0 r1 r2 r3 r4 Hc
        have H2 := Lib.hid (Hf1.out.later hmv)
        obtain ⟨d0, d1, d2, d3, d4, d5, d6⟩ := three_facts H2.out.fc
        cases hxx : sm (.mk xk xt xl xc xs) st1 with
        | out => exact absurd hxx (fun h => Hne.out (by rw [Hre.out, ebind_out h]))
        | err x y z =>
          rw [hxx] at hq
          obtain rfl := hq
          have Hfin : Hid (res = .err x y z) := Lib.hid (by rw [Hre.out, ebind_err hxx])
          have hxz := Hnz.out _ _ _ _ _ hxx
          have hxz' : (x == 0) = false := by simpa using hxz
          clear hxx Hre Hf1 Hm1 hmv
          unfold faultV
          go_wp2_with fail
          refine bodyPost_ret (v := faultV x y z) (by simp [faultV, results, Tryz.results36, go_sem, d0, d1, d2, d3]) rfl ?_
          rw [Hfin.out]
          exact ⟨c2, ((H2.out.setF (.int .i64 x) (.int .i64 y) (.int .i64 z)).below ((Below.refl _ _).alloc (Nat.le_refl _) _)).mv, rfl⟩
        | ok u st2 =>
          rw [hxx] at hq
          obtain ⟨hms2, v2, rfl, hv2⟩ := hq
          obtain rfl : v2 = faultV 0 0 0 := hv2
          have Hre2 : Hid (res = eBlock sm (l.drop (j + 1)) st2) := Lib.hid (by rw [Hre.out, ebind_ok hxx])
          have hb3 : Below w2.heap.size w2 (w2.alloc (.cells #[.int .i64 0, .int .i64 0, .int .i64 0] 89)) := (Below.refl _ w2).alloc (Nat.le_refl _) _
          have H3 := Lib.hid (H2.out.below hb3)
          have Hm3 := Lib.hid (And.intro (hms2.below hb3) (And.intro ((Hm1.out.1.mv hmv).mv (.of_below c2 hb3)) ((Hm1.out.2.gmv Hm1.out.1 hmv).below hb3)))
          clear hxx Hre Hf1 Hm1 hmv hms2 hb3 H2 d0 d1 d2 d3 d4 d5 d6
          unfold faultV
          go_wp2_with fail
          go_roundw
          case rel => exact ⟨j + 1, c2, st2, by go_num, by omega, H3, Hm3, Hre2⟩
          case measure => simp only [intOf]; omega
    · have hd0 : l.drop j = [] := List.drop_eq_nil_of_le (by omega)
      have Hfin : Hid (res = .ok () st1) := Lib.hid (by rw [hre.out, hd0]; rfl)
      have H1 := Lib.hid hf.out
      have Hm1 := Lib.hid hms.out.1
      obtain ⟨d0, d1, d2, d3, d4, d5, d6⟩ := three_facts H1.out.fc
      clear hd0 hre hf hms
      go_wp2_with fail
      refine bodyPost_ret (v := faultV 0 0 0) (by simp [faultV, results, Tryz.results36, go_sem, d0, d1, d2, d3]) rfl ?_
      rw [Hfin.out]
      exact ⟨c1, (H1.out.setF (.int .i64 0) (.int .i64 0) (.int .i64 0)).mv, Hm1.out.setO H1.out.out (.int .i64 0) (.int .i64 0) (.int .i64 0), _, rfl, rfl⟩
end Go.Proofs.YtmmflgbhgjefmaaGreatDoor
namespace Go.Proofs.YtmmflgbhgjefmaaGreatDoor
open Go Go.RowKit

/-- A method that takes a node and hands back a fault: its boxes. -/
structure XS (c0 : Ctx) (w : World) (c : Ctx) (W : World) (n f : Array Value) : Prop where
  fx : XF c0 w c W (w.heap.size + 1) f
  na : W.heap[w.heap.size]? = some (.cells n 51 (0, 0))
  no : ¬ c.M w.heap.size ∧ ¬ c.F w.heap.size
section
variable {c0 c c' : Ctx} {w W W' : World} {n f : Array Value}
theorem XS.start (h : c0.Ok w) (n f : Array Value) : XS c0 w c0 ((w.alloc (.cells n 51)).alloc (.cells f 89)) n f := by
  have hb : Below w.heap.size w ((w.alloc (.cells n 51)).alloc (.cells f 89)) := ((Below.refl _ w).alloc (Nat.le_refl _) _).alloc (by simp) _
  have h1 := heap_alloc_new (w.alloc (.cells n 51)) (.cells f 89)
  rw [show (w.alloc (.cells n 51)).heap.size = w.heap.size + 1 by simp] at h1
  exact ⟨⟨.of_below c0 hb, h1, by omega, fun h2 => by have := h.ml _ h2; omega, fun h2 => by have := h.fl _ h2; omega⟩, (Below.heap_alloc _ _ _ (by simp)).trans (heap_alloc_new w _), fun h2 => by have := h.ml _ h2; omega, fun h2 => by have := h.fl _ h2; omega⟩
theorem XS.later (h : XS c0 w c W n f) (k : Mv c W c' W') : XS c0 w c' W' n f := by
  have hl := (Array.getElem?_eq_some_iff.1 h.na).1
  refine ⟨h.fx.later k, (k.block _ hl h.no.1).trans h.na, fun hm => ?_, fun hm => ?_⟩
  · rcases k.m _ hm with h3 | h3
    · exact h.no.1 h3
    · omega
  · rcases k.f _ hm with h3 | h3
    · exact h.no.2 h3
    · omega
theorem XS.below (h : XS c0 w c W n f) (k : Below W.heap.size W W') : XS c0 w c W' n f := h.later (.of_below c k)
end
set_option maxRecDepth 100000 in
set_option maxHeartbeats 2000000 in
theorem stmt_stop {mp mb : Nat} {hv : Value} (G : Nat → Prop) (c : Ctx) (w : World) (st : St) (t : ByteArray) (l k : Int) (kids : List Nd) (a : Option Addr) (cap : Nat) (hm : MS c w mp mb hv st) (hG : GOk G c w) (hr : RowAt G w a (nodesD kids)) (kk : Int) (hle : st.left ≤ 0) :
    Calls Tryz.prog 48 #[ptr mp, .agg #[.int .i64 kk, .string t, .int .i64 l, .int .i64 k, .slice a kids.length cap]] w (EP mp mb hv EUnit faultV c (.err 12 l k) w) := by
  have hb0 : Below w.heap.size w ((w.alloc (.cells #[.int .i64 kk, .string t, .int .i64 l, .int .i64 k, .slice a kids.length cap] 51)).alloc (.cells #[.int .i64 0, .int .i64 0, .int .i64 0] 89)) := ((Below.refl _ w).alloc (Nat.le_refl _) _).alloc (by simp) _
  have H0 := Lib.hid (XS.start hm.ok #[.int .i64 kk, .string t, .int .i64 l, .int .i64 k, .slice a kids.length cap] #[.int .i64 0, .int .i64 0, .int .i64 0])
  have Hst := Lib.hid (step_any c mp mb hv st l k _ (hm.below hb0))
  have HG0 := Lib.hid (hG.mv (.of_below c hb0))
  have Hr0 := Lib.hid (hr.below hb0)
  rw [show eStep l k st = .err 12 l k from if_pos hle] at Hst
  clear hm hG hr hle hb0
  unfold ptr at Hst ⊢
  go_enter Tryz.func48, Tryz.ntmps48
  go_wp2_with fail
  refine Hst.out.mono ?_
  rintro e w1 ⟨c1, hmv, rfl⟩
  have H1 := Lib.hid (H0.out.later hmv)
  clear hmv Hst H0
  unfold faultV
  obtain ⟨d0, d1, d2, d3, d4, d5, d6⟩ := three_facts H1.out.fx.fc
  go_wp2_with fail
  refine bodyPost_ret (v := faultV 12 l k) (by simp [faultV, results, Tryz.results48, go_sem, d0, d1, d2, d3]) rfl ?_
  exact ⟨c1, ((H1.out.fx.setF (.int .i64 12) (.int .i64 l) (.int .i64 k)).below ((Below.refl _ _).alloc (Nat.le_refl _) _)).mv, rfl⟩

set_option maxRecDepth 100000 in
set_option maxHeartbeats 2000000 in
theorem stmt_for {mp mb : Nat} {hv : Value} (G : Nat → Prop) (c : Ctx) (w : World) (st : St) (t : ByteArray) (l k : Int) (kids : List Nd) (a : Option Addr) (cap : Nat) (hm : MS c w mp mb hv st) (hG : GOk G c w) (hr : RowAt G w a (nodesD kids)) (hle : ¬ st.left ≤ 0) (hsn : smallN (.mk 4 t l k kids)) (ea : Nd → EM Unit) (he : SDoes 82 mp mb hv ea) (hne : ea (.mk 4 t l k kids) { st with left := st.left - 1 } ≠ .out) :
    Calls Tryz.prog 48 #[ptr mp, .agg #[.int .i64 4, .string t, .int .i64 l, .int .i64 k, .slice a kids.length cap]] w (EP mp mb hv EUnit faultV c (ea (.mk 4 t l k kids) { st with left := st.left - 1 }) w) := by
  have hb0 : Below w.heap.size w ((w.alloc (.cells #[.int .i64 4, .string t, .int .i64 l, .int .i64 k, .slice a kids.length cap] 51)).alloc (.cells #[.int .i64 0, .int .i64 0, .int .i64 0] 89)) := ((Below.refl _ w).alloc (Nat.le_refl _) _).alloc (by simp) _
  have H0 := Lib.hid (XS.start hm.ok #[.int .i64 4, .string t, .int .i64 l, .int .i64 k, .slice a kids.length cap] #[.int .i64 0, .int .i64 0, .int .i64 0])
  have Hst := Lib.hid (step_any c mp mb hv st l k _ (hm.below hb0))
  have HG0 := Lib.hid (hG.mv (.of_below c hb0))
  have Hr0 := Lib.hid (hr.below hb0)
  have He := Lib.hid he
  have Hsn := Lib.hid hsn
  have Hne := Lib.hid hne
  clear he hsn hne
  rw [show eStep l k st = .ok () { st with left := st.left - 1 } from if_neg hle] at Hst
  clear hm hG hr hle hb0
  unfold ptr at Hst ⊢
  go_enter Tryz.func48, Tryz.ntmps48
  go_wp2_with fail
  refine Hst.out.mono ?_
  rintro e w0 ⟨c0, hmv, hms, v0, rfl, hv0⟩
  obtain rfl : v0 = faultV 0 0 0 := hv0
  have hbs : Below w0.heap.size w0 (w0.alloc (.cells #[.int .i64 0, .int .i64 0, .int .i64 0] 89)) := (Below.refl _ w0).alloc (Nat.le_refl _) _
  have H1 := Lib.hid ((H0.out.later hmv).below hbs)
  have Hm1 := Lib.hid (hms.below hbs)
  have HG1 := Lib.hid ((HG0.out.mv hmv).mv (.of_below c0 hbs))
  have Hr1 := Lib.hid ((Hr0.out.gmv HG0.out hmv).below hbs)
  clear hmv hms Hst H0 HG0 Hr0 hbs
  unfold faultV
  obtain ⟨r0, r1, r2, r3, r4, r5, r6, r7, r8, r9, r10⟩ := five_facts H1.out.na
  have Hc := Lib.hid (He.out G c0 _ { st with left := st.left - 1 } (.mk 4 t l k kids) _ Hm1.out HG1.out (NodeV.mk _ _ _ _ cap Hr1.out) Hsn.out Hne.out)
  unfold ptr at Hc
  go_wp2_with fail
  refine Hc.out.mono ?_
  rintro e w2 ⟨c2, hmv, hq⟩
  have H3 := Lib.hid (H1.out.later hmv)
  clear hmv Hc H1 Hm1 r0 r1 r2 r3 r4 r5 r6 r7 r8 r9 r10 HG1 Hr1
  obtain ⟨d0, d1, d2, d3, d4, d5, d6⟩ := three_facts H3.out.fx.fc
  cases hx : ea (.mk 4 t l k kids) { st with left := st.left - 1 } with
  | out => exact absurd hx Hne.out
  | err x y z =>
    rw [hx] at hq
    obtain rfl := hq
    unfold faultV
    have Hres := Lib.hid hx
    clear hx
    go_wp2_with fail
    refine bodyPost_ret (v := faultV x y z) (by simp [faultV, results, Tryz.results48, go_sem, d0, d1, d2, d3]) rfl ?_
    rw [Hres.out]
    exact ⟨c2, (H3.out.fx.setF (.int .i64 x) (.int .i64 y) (.int .i64 z)).mv, rfl⟩
  | ok u st2 =>
    rw [hx] at hq
    obtain ⟨hms2, v2, rfl, hv2⟩ := hq
    obtain rfl : v2 = faultV 0 0 0 := hv2
    have Hm3 := Lib.hid hms2
    unfold faultV
    have Hres := Lib.hid hx
    clear hx hms2
    go_wp2_with fail
    refine bodyPost_ret (v := faultV 0 0 0) (by simp [faultV, results, Tryz.results48, go_sem, d0, d1, d2, d3]) rfl ?_
    rw [Hres.out]
    exact ⟨c2, (H3.out.fx.setF (.int .i64 0) (.int .i64 0) (.int .i64 0)).mv, Hm3.out.setO H3.out.fx.out (.int .i64 0) (.int .i64 0) (.int .i64 0), _, rfl, rfl⟩

set_option maxRecDepth 100000 in
set_option maxHeartbeats 2000000 in
theorem stmt_assign {mp mb : Nat} {hv : Value} (G : Nat → Prop) (c : Ctx) (w : World) (st : St) (t : ByteArray) (l k : Int) (kids : List Nd) (a : Option Addr) (cap : Nat) (hm : MS c w mp mb hv st) (hG : GOk G c w) (hr : RowAt G w a (nodesD kids)) (hle : ¬ st.left ≤ 0) (hsn : smallN (.mk 2 t l k kids)) (ex : Nd → EM Vl) (hnz : ∀ n, ENz (ex n)) (hx : XDoes 79 mp mb hv ex) (hne : EM.bind (ex (kidN (.mk 2 t l k kids) 0)) (fun v => ePut t v l k) { st with left := st.left - 1 } ≠ .out) :
    Calls Tryz.prog 48 #[ptr mp, .agg #[.int .i64 2, .string t, .int .i64 l, .int .i64 k, .slice a kids.length cap]] w (EP mp mb hv EUnit faultV c (EM.bind (ex (kidN (.mk 2 t l k kids) 0)) (fun v => ePut t v l k) { st with left := st.left - 1 }) w) := by
  have hb0 : Below w.heap.size w ((w.alloc (.cells #[.int .i64 2, .string t, .int .i64 l, .int .i64 k, .slice a kids.length cap] 51)).alloc (.cells #[.int .i64 0, .int .i64 0, .int .i64 0] 89)) := ((Below.refl _ w).alloc (Nat.le_refl _) _).alloc (by simp) _
  have H0 := Lib.hid (XS.start hm.ok #[.int .i64 2, .string t, .int .i64 l, .int .i64 k, .slice a kids.length cap] #[.int .i64 0, .int .i64 0, .int .i64 0])
  have Hst := Lib.hid (step_any c mp mb hv st l k _ (hm.below hb0))
  have HG0 := Lib.hid (hG.mv (.of_below c hb0))
  have Hr0 := Lib.hid (hr.below hb0)
  have Hx := Lib.hid hx
  have Hs0 := Lib.hid (smallN_kid hsn 0)
  have hlen : kids.length ≤ 140737488355328 ∧ t.size ≤ maxLen := by rw [smallN] at hsn; exact ⟨by omega, hsn.1⟩
  have Hlen := Lib.hid hlen
  have Hnz := Lib.hid hnz
  obtain ⟨res, hres⟩ : ∃ res, res = EM.bind (ex (kidN (.mk 2 t l k kids) 0)) (fun v => ePut t v l k) { st with left := st.left - 1 } := ⟨_, rfl⟩
  rw [← hres] at hne ⊢
  have Hres := Lib.hid hres
  have Hne := Lib.hid hne
  clear hx hsn hlen hnz hres hne
  rw [show eStep l k st = .ok () { st with left := st.left - 1 } from if_neg hle] at Hst
  clear hm hG hr hle hb0
  unfold ptr at Hst ⊢
  go_enter Tryz.func48, Tryz.ntmps48
  go_wp2_with fail
  refine Hst.out.mono ?_
  rintro e w0 ⟨c0, hmv, hms, v0, rfl, hv0⟩
  obtain rfl : v0 = faultV 0 0 0 := hv0
  have hbs : Below w0.heap.size w0 (w0.alloc (.cells #[.int .i64 0, .int .i64 0, .int .i64 0] 89)) := (Below.refl _ w0).alloc (Nat.le_refl _) _
  have H1 := Lib.hid ((H0.out.later hmv).below hbs)
  have Hm1 := Lib.hid (hms.below hbs)
  have HG1 := Lib.hid ((HG0.out.mv hmv).mv (.of_below c0 hbs))
  have Hr1 := Lib.hid ((Hr0.out.gmv HG0.out hmv).below hbs)
  clear hmv hms Hst H0 HG0 Hr0 hbs
  unfold faultV
  obtain ⟨r0, r1, r2, r3, r4, r5, r6, r7, r8, r9, r10⟩ := five_facts H1.out.na
  have Hk : Hid (Calls Tryz.prog 80 #[.agg #[.int .i64 2, .string t, .int .i64 l, .int .i64 k, .slice a kids.length cap], .int .i64 0] (w0.alloc (.cells #[.int .i64 0, .int .i64 0, .int .i64 0] 89)) (PKid G (kidN (.mk 2 t l k kids) 0) (w0.alloc (.cells #[.int .i64 0, .int .i64 0, .int .i64 0] 89)))) := Lib.hid (kid_any G 2 t l k kids a cap 0 _ (by omega) (by omega) Hlen.out.1 Hr1.out)
  generalize hx0 : kidN (.mk 2 t l k kids) 0 = x0 at Hk Hs0 Hres
  clear hx0
  go_wp2_with fail
  refine Hk.out.mono ?_
  rintro e w1 ⟨v1, rfl, hn1, hb1⟩
  have hn0 : ex x0 { st with left := st.left - 1 } ≠ .out := fun h => Hne.out (by rw [Hres.out, ebind_out h])
  have Hc := Lib.hid (Hx.out G c0 w1 { st with left := st.left - 1 } x0 v1 (Hm1.out.below hb1) (HG1.out.mv (.of_below c0 hb1)) hn1 Hs0.out hn0)
  have H2 := Lib.hid (H1.out.below hb1)
  unfold ptr at Hc
  clear hb1 hn1 hn0 Hk H1 Hm1 HG1 Hr1 Hs0 r0 r1 r2 r3 r4 r5 r6 r7 r8 r9 r10
  go_wp2_with fail
  refine Hc.out.mono ?_
  rintro e w2 ⟨c2, hmv, hq⟩
  have H3 := Lib.hid (H2.out.later hmv)
  clear hmv Hc H2
  obtain ⟨d0, d1, d2, d3, d4, d5, d6⟩ := three_facts H3.out.fx.fc
  obtain ⟨r0, r1, r2, r3, r4, r5, r6, r7, r8, r9, r10⟩ := five_facts H3.out.na
  cases hxx : ex x0 { st with left := st.left - 1 } with
  | out => exact absurd hxx (fun h => Hne.out (by rw [Hres.out, ebind_out h]))
  | err x y z =>
    rw [hxx] at hq
    obtain rfl := hq
    have Hfin : Hid (res = .err x y z) := Lib.hid (by rw [Hres.out, ebind_err hxx])
    have hxz := Hnz.out _ _ _ _ _ hxx
    have hxz' : (x == 0) = false := by simpa using hxz
    clear hxx Hres
    have d01 : w.heap.size < w2.heap.size := by omega
    unfold badV zeroV faultV
    go_wp2_with fail
    refine bodyPost_ret (v := faultV x y z) (by simp [faultV, results, Tryz.results48, go_sem, d0, d01, d1, d2, d3]) rfl ?_
    rw [Hfin.out]
    have hbe := fun (W : World) => ((Below.refl _ W).alloc (Nat.le_refl _) (.cells #[.int .i64 0, .int .i64 0, .string ⟨#[]⟩, .slice none 0 0, .slice none 0 0] 31)).alloc (by simp) (.cells #[.int .i64 x, .int .i64 y, .int .i64 z] 89)
    exact ⟨c2, ((H3.out.fx.setF (.int .i64 x) (.int .i64 y) (.int .i64 z)).below (hbe _)).mv, rfl⟩
  | ok xa st2 =>
    rw [hxx] at hq
    obtain ⟨hms2, v2, rfl, cs, rfl, hagg, hcka⟩ := hq
    have Hres2 : Hid (res = ePut t xa l k st2) := Lib.hid (by rw [Hres.out, ebind_ok hxx])
    have hbw : ∀ o1 o2, Below w2.heap.size w2 ((w2.alloc o1).alloc o2) := fun o1 o2 => ((Below.refl _ w2).alloc (Nat.le_refl _) _).alloc (by simp) _
    obtain ⟨b1, e1, b2, e2, hcs, -, -⟩ : ∃ a c a' c', cs = [.int .i64 xa.kind, .int .i64 xa.num, .string xa.str, .slice a xa.items.length c, .slice a' xa.keys.length c'] ∧ True ∧ True := by
      obtain ⟨yk, yn, ys, yl, yks⟩ := xa
      obtain ⟨b1, e1, b2, e2, h, -, -⟩ := hagg.val
      exact ⟨b1, e1, b2, e2, h, trivial, trivial⟩
    subst hcs
    have Hp := Lib.hid (put_any c2 mp mb hv st2 t xa _ l k _ (hms2.below (hbw (.cells #[.int .i64 xa.kind, .int .i64 xa.num, .string xa.str, .slice b1 xa.items.length e1, .slice b2 xa.keys.length e2] 31) (.cells #[.int .i64 0, .int .i64 0, .int .i64 0] 89))) Hlen.out.2 (hagg.below (hbw _ _)) hcka)
    have H4 := Lib.hid (H3.out.below (hbw (.cells #[.int .i64 xa.kind, .int .i64 xa.num, .string xa.str, .slice b1 xa.items.length e1, .slice b2 xa.keys.length e2] 31) (.cells #[.int .i64 0, .int .i64 0, .int .i64 0] 89)))
    unfold ptr at Hp
    clear hxx Hres hms2 hagg hcka hbw H3
    unfold faultV
    go_wp2_with fail
    refine Hp.out.mono ?_
    rintro e w4 ⟨c4, hmv, hq⟩
    have H5 := Lib.hid (H4.out.later hmv)
    clear hmv Hp H4 d0 d1 d2 d3 d4 d5 d6 r0 r1 r2 r3 r4 r5 r6 r7 r8 r9 r10
    obtain ⟨d0, d1, d2, d3, d4, d5, d6⟩ := three_facts H5.out.fx.fc
    cases hpx : ePut t xa l k st2 with
    | out => exact absurd hpx (fun h => Hne.out (by rw [Hres2.out, h]))
    | err x y z =>
      rw [hpx] at hq
      obtain rfl := hq
      have Hfin : Hid (res = .err x y z) := Lib.hid (by rw [Hres2.out, hpx])
      clear hpx Hres2
      unfold faultV
      go_wp2_with fail
      refine bodyPost_ret (v := faultV x y z) (by simp [faultV, results, Tryz.results48, go_sem, d0, d1, d2, d3]) rfl ?_
      rw [Hfin.out]
      exact ⟨c4, (H5.out.fx.setF (.int .i64 x) (.int .i64 y) (.int .i64 z)).mv, rfl⟩
    | ok u st4 =>
      rw [hpx] at hq
      obtain ⟨hms4, v4, rfl, hv4⟩ := hq
      obtain rfl : v4 = faultV 0 0 0 := hv4
      have Hfin : Hid (res = .ok u st4) := Lib.hid (by rw [Hres2.out, hpx])
      have Hm5 := Lib.hid hms4
      clear hpx Hres2 hms4
      unfold faultV
      go_wp2_with fail
      refine bodyPost_ret (v := faultV 0 0 0) (by simp [faultV, results, Tryz.results48, go_sem, d0, d1, d2, d3]) rfl ?_
      rw [Hfin.out]
      exact ⟨c4, (H5.out.fx.setF (.int .i64 0) (.int .i64 0) (.int .i64 0)).mv, Hm5.out.setO H5.out.fx.out (.int .i64 0) (.int .i64 0) (.int .i64 0), _, rfl, rfl⟩
end Go.Proofs.YtmmflgbhgjefmaaGreatDoor
namespace Go.Proofs.YtmmflgbhgjefmaaGreatDoor
open Go Go.RowKit

theorem may_mono (v : Vl) : ∀ d m d' m', d' ≤ d → m ≤ m' → (mayV v d m).1 = true → (mayV v d' m').1 = true ∧ (mayV v d' m').2 = (mayV v d m).2 + (m' - m) ∧ (mayV v d m).2 ≤ m :=
  Vl.rec (motive_1 := fun v => ∀ d m d' m', d' ≤ d → m ≤ m' → (mayV v d m).1 = true → (mayV v d' m').1 = true ∧ (mayV v d' m').2 = (mayV v d m).2 + (m' - m) ∧ (mayV v d m).2 ≤ m)
    (motive_2 := fun l => ∀ d m d' m', d' ≤ d → m ≤ m' → (mayVs l d m).1 = true → (mayVs l d' m').1 = true ∧ (mayVs l d' m').2 = (mayVs l d m).2 + (m' - m) ∧ (mayVs l d m).2 ≤ m)
    (fun k n s l ks ih d m d' m' hd hm h => by
      rw [mayV] at h ⊢
      split at h
      · cases h
      · rename_i h1
        split at h
        · rename_i hk
          rw [if_neg (by omega), if_pos hk]
          have h2 := ih (d + 1) (m - 1) (d' + 1) (m' - 1) (by omega) (by omega) h
          rw [mayV, if_neg h1, if_pos hk]
          exact ⟨h2.1, by rw [h2.2.1]; omega, by omega⟩
        · cases h)
    (fun d m d' m' _ _ _ => by rw [mayVs, mayVs]; exact ⟨rfl, by simp; omega, Int.le_refl _⟩)
    (fun v t hv ht d m d' m' hd hm h => by
      rw [mayVs] at h
      split at h
      · rename_i h1
        obtain ⟨h2, h3, h4⟩ := hv d m d' m' hd hm h1
        obtain ⟨h5, h6, h7⟩ := ht d (mayV v d m).2 d' (mayV v d' m').2 hd (by omega) h
        rw [mayVs, if_pos h2, mayVs, if_pos h1]
        exact ⟨h5, by rw [h6, h3]; omega, by omega⟩
      · cases h) v
theorem mays_items : ∀ (l : List Vl) (d m : Int), 1 ≤ d → m ≤ 20000 → (mayVs l d m).1 = true → ∀ x ∈ l, checkV x = true
  | [], _, _, _, _, _ => fun x hx => by cases hx
  | v :: t, d, m, hd, hm, h => fun x hx => by
    rw [mayVs] at h
    split at h
    · rename_i h1
      obtain ⟨h2, -, -⟩ := may_mono v d m 1 20000 hd hm h1
      obtain ⟨-, -, h4⟩ := may_mono v d m d m (Int.le_refl _) (Int.le_refl _) h1
      rcases List.mem_cons.1 hx with rfl | hx
      · exact h2
      · exact mays_items t d _ hd (by omega) h x hx
    · cases h
theorem check_items {k n : Int} {s : ByteArray} {l : List Vl} {ks : List ByteArray} (h : checkV (.mk k n s l ks) = true) : ∀ x ∈ l, checkV x = true := by
  unfold checkV at h
  rw [mayV] at h
  split at h
  · cases h
  · split at h
    · exact mays_items l _ _ (by decide) (by decide) h
    · cases h
end Go.Proofs.YtmmflgbhgjefmaaGreatDoor
