/-
  Walks of the parser: expr. (Printed by parse_gen.py.)
  The parser's methods, all at once: by how deep they call each other.
-/
import Derived.Test.YthknljeffpbbmaaGreatDoorMParseJ
namespace Go.Proofs.YthknljeffpbbmaaGreatDoor
open Go Go.RowKit

set_option maxRecDepth 100000 in
set_option maxHeartbeats 8000000 in
theorem expr_any (bp : Nat) (en : Int × Int) (L : Lvl) (hi : Inc 0 (pSum en L)) (hx : Does 170 bp en VNode (pSum en L)) : Does 155 bp en VNode (pExpr en L) := by
  intro w ts dp hp hd0 hd1 hr
  have Hr := Lib.hid hr
  have Hx := Lib.hid hx
  clear hx
  have hsp : pExpr en L ts dp = PM.bind (pSum en L) (fun x => pLook fun ts => if isSign en ts 0 [61, 61] || isSign en ts 0 [33, 61] || isWordT en ts [105, 110] then PM.bind (pTake en true) fun t => PM.bind (pSum en L) fun y => PM.pure (nodeT 16 t t.text [x, y]) else PM.pure x) ts dp := rfl
  have Hsp := Lib.hid hsp
  have H0 := Lib.hid ((PI.start hp).alloc #[.int .i64 0, .string ⟨#[]⟩, .int .i64 0, .int .i64 0, .slice none 0 0] 83)
  clear hp hr hsp
  unfold ptr
  go_enter Tryz.func155, Tryz.ntmps155
  go_wp2_with fail
  have hne : (pSum en L) ts (dp) ≠ .out := fun h => Hr.out (Hsp.out.trans (bind_out h))
  have Hc1 := Lib.hid (Hx.out (w.alloc (.cells #[.int .i64 0, .string ⟨#[]⟩, .int .i64 0, .int .i64 0, .slice none 0 0] 83)) ts (dp) H0.out.ps (by omega) (by omega) hne)
  try unfold ptr at Hc1
  clear hne
  refine Hc1.out.mono ?_
  rintro e w2 ⟨hg, hq⟩
  cases hm : (pSum en L) ts (dp) with
  | out => exact absurd (Hsp.out.trans (bind_out hm)) Hr.out
  | err ex el ec =>
    rw [hm] at hq
    obtain rfl := hq
    have Hf : Hid (pExpr en L ts dp = .err ex el ec) := Lib.hid (Hsp.out.trans (bind_err hm))
    clear hm
    refine ⟨rfl, ?_⟩
    rw [Hf.out]
    exact ⟨grownBy_trans H0.out.grown hg, rfl⟩
  | ok x6 ts5 dq =>
    have hdq : dp = dq := by have := hi _ _ _ _ _ hm; omega
    subst hdq
    rw [hm] at hq
    obtain ⟨x6k, x6t, x6l, x6c, x6s⟩ := x6
    obtain ⟨hps, v, rfl, hv⟩ := hq
    obtain ⟨a7, cap8, rfl, hrow⟩ := NodeV.open hv
    have Hccap8 := Lib.hid (NodeV.cap hv)
    have H3 := Lib.hid ((H0.out.call hg hps).row hrow H0.out.grown.size H0.out.lt)
    clear hv hrow
    have Hsp4 := Lib.hid (Hsp.out.trans (bind_ok hm))
    clear hm hg hps Hc1 H0 Hsp
    have H10 := Lib.hid (H3.out.alloc #[.int .i64 x6k, .string x6t, .int .i64 x6l, .int .i64 x6c, .slice a7 x6s.length cap8] 83)
    clear H3
    obtain ⟨W9, hW⟩ : ∃ X, X = w2.alloc (.cells #[.int .i64 x6k, .string x6t, .int .i64 x6l, .int .i64 x6c, .slice a7 x6s.length cap8] 83) := ⟨_, rfl⟩
    rw [← hW] at H10
    have HW12 := Lib.hid hW
    clear hW
    generalize hb : w2.heap.size = b11 at H10
    have Hb13 := Lib.hid hb
    clear hb
    go_wp2_with fail
    rw [← HW12.out, Hb13.out]
    clear HW12 Hb13
    have Hsp14 : Hid (pExpr en L ts dp = (if isSign en ts5 0 [61, 61] || isSign en ts5 0 [33, 61] || isWordT en ts5 [105, 110] then PM.bind (pTake en true) fun t => PM.bind (pSum en L) fun y => PM.pure (nodeT 16 t t.text [.mk x6k x6t x6l x6c x6s, y]) else PM.pure (.mk x6k x6t x6l x6c x6s)) ts5 dp) := Lib.hid (by rw [Hsp4.out] <;> rfl)
    clear Hsp4
    have Hc15 := Lib.hid (sign_any bp 0 ⟨#[61, 61]⟩ en ts5 (dp) W9 (by omega) H10.out.ps)
    try unfold ptr at Hc15
    refine Hc15.out.mono ?_
    rintro e w16 ⟨rfl, hb⟩
    have H17 := Lib.hid (H10.out.below hb)
    clear hb Hc15 H10
    cases h1 : isSign en ts5 0 [61, 61]
    · try rw [h1]
      have Hc18 := Lib.hid (sign_any bp 0 ⟨#[33, 61]⟩ en ts5 (dp) w16 (by omega) H17.out.ps)
      try unfold ptr at Hc18
      go_wp2_with fail
      refine Hc18.out.mono ?_
      rintro e w19 ⟨rfl, hb⟩
      have H20 := Lib.hid (H17.out.below hb)
      clear hb Hc18 H17
      cases h2 : isSign en ts5 0 [33, 61]
      · try rw [h2]
        have Hc21 := Lib.hid (word_any bp ⟨#[105, 110]⟩ en ts5 (dp) w19 H20.out.ps)
        try unfold ptr at Hc21
        go_wp2_with fail
        refine Hc21.out.mono ?_
        rintro e w22 ⟨rfl, hb⟩
        have H23 := Lib.hid (H20.out.below hb)
        clear hb Hc21 H20
        cases h3 : isWordT en ts5 [105, 110]
        · try rw [h3]
          have Hsp24 : Hid (pExpr en L ts dp = PM.pure (.mk x6k x6t x6l x6c x6s) ts5 dp) := Lib.hid (by rw [Hsp14.out, h1, h2, h3] <;> rfl)
          clear Hsp14
          obtain ⟨r25, r26, r27, r28, r29, r30, r31, r32, r33, r34, r35⟩ := five_facts (H23.out.at (b := b11) (cs := #[.int .i64 x6k, .string x6t, .int .i64 x6l, .int .i64 x6c, .slice a7 x6s.length cap8]) (T := 83) (by simp))
          obtain ⟨r36, r37, r38, r39, r40, r41, r42, r43, r44, r45, r46⟩ := five_facts (H23.out.at (b := w.heap.size) (cs := #[.int .i64 0, .string ⟨#[]⟩, .int .i64 0, .int .i64 0, .slice none 0 0]) (T := 83) (by simp))
          go_wp2_with fail
          refine bodyPost_ret (v := .agg #[.int .i64 x6k, .string x6t, .int .i64 x6l, .int .i64 x6c, .slice a7 x6s.length cap8]) (by simp [results, Tryz.results155, go_sem, r37, r38, r39, r40, r41]) rfl ?_
          have G := Lib.hid (H23.out.put5 1 rfl (.int .i64 x6k) (.string x6t) (.int .i64 x6l) (.int .i64 x6c) (.slice a7 x6s.length cap8))
          rw [Hsp24.out]
          exact ⟨G.out.grown, G.out.ps, _, rfl, NodeV.mk _ _ _ _ _ (G.out.hand (by simp))⟩
        · try rw [h3]
          have Hsp47 : Hid (pExpr en L ts dp = PM.bind (pTake en true) (fun t => PM.bind (pSum en L) fun y => PM.pure (nodeT 16 t t.text [.mk x6k x6t x6l x6c x6s, y])) ts5 dp) := Lib.hid (by rw [Hsp14.out, h1, h2, h3] <;> rfl)
          clear Hsp14
          have hne : (pTake en true) ts5 (dp) ≠ .out := fun h => Hr.out (Hsp47.out.trans (bind_out h))
          have Hc48 := Lib.hid (take_any bp true en ts5 (dp) w22 H23.out.ps hne)
          try unfold ptr at Hc48
          clear hne
          go_wp2_with fail
          refine Hc48.out.mono ?_
          rintro e w49 ⟨hg, hq⟩
          cases hm : (pTake en true) ts5 (dp) with
          | out => exact absurd (Hsp47.out.trans (bind_out hm)) Hr.out
          | err ex el ec =>
            rw [hm] at hq
            obtain rfl := hq
            have Hf : Hid (pExpr en L ts dp = .err ex el ec) := Lib.hid (Hsp47.out.trans (bind_err hm))
            clear hm
            refine ⟨rfl, ?_⟩
            rw [Hf.out]
            exact ⟨grownBy_trans H23.out.grown hg, rfl⟩
          | ok x53 ts52 dq =>
            have hdq : dp = dq := by have := Inc.take _ _ _ _ _ _ hm; omega
            subst hdq
            rw [hm] at hq
            obtain ⟨hps, v, rfl, rfl⟩ := hq
            have H50 := Lib.hid (H23.out.call hg hps)
            try unfold tokV
            have Hsp51 := Lib.hid (Hsp47.out.trans (bind_ok hm))
            clear hm hg hps Hc48 H23 Hsp47
            have H55 := Lib.hid (H50.out.alloc #[.int .i64 x53.kind, .string x53.text, .int .i64 x53.line, .int .i64 x53.col] 157)
            clear H50
            obtain ⟨W54, hW⟩ : ∃ X, X = w49.alloc (.cells #[.int .i64 x53.kind, .string x53.text, .int .i64 x53.line, .int .i64 x53.col] 157) := ⟨_, rfl⟩
            rw [← hW] at H55
            have HW57 := Lib.hid hW
            clear hW
            generalize hb : w49.heap.size = b56 at H55
            have Hb58 := Lib.hid hb
            clear hb
            go_wp2_with fail
            rw [← HW57.out, Hb58.out]
            clear HW57 Hb58
            have H59 := Lib.hid H55.out.drew
            clear H55
            go_wp2_with fail
            refine wp_region_turns (.s 0 (.s 1 (.s 2 (.s 3 (.s 4 (.h 5 (.h 6 (.h 7 (.h 8 .nil))))))))) 8 (fun W' => W'.heap[b56]? = some (.cells #[.int .i64 x53.kind, .string x53.text, .int .i64 x53.line, .int .i64 x53.col] 157 (0, 0)) ∧ W'.heap[b11]? = some (.cells #[.int .i64 x6k, .string x6t, .int .i64 x6l, .int .i64 x6c, .slice a7 x6s.length cap8] 83 (0, 0))) (by kernel_rfl) (by kernel_rfl) (fun c a d v w h => by cases d <;> exact h) (⟨H59.out.at (by simp), H59.out.at (by simp)⟩) ?_
            refine turn_steady (tokV x53) rfl rfl (fun W' hS => ?_) ?_
            · try unfold tokV
              try unfold ptr
              obtain ⟨hS0, hS1⟩ := hS
              obtain ⟨s00, s01, s02, s03, s04⟩ := four_facts hS0
              clear hS0
              obtain ⟨s10, s11, s12, s13, s14, s15, s16, s17, s18, s19, s110⟩ := five_facts hS1
              clear hS1
              go_simp
            refine turn_steady (.pointer (some ⟨b56, 1, none⟩)) rfl rfl (fun W' hS => ?_) ?_
            · try unfold tokV
              try unfold ptr
              obtain ⟨hS0, hS1⟩ := hS
              obtain ⟨s00, s01, s02, s03, s04⟩ := four_facts hS0
              clear hS0
              obtain ⟨s10, s11, s12, s13, s14, s15, s16, s17, s18, s19, s110⟩ := five_facts hS1
              clear hS1
              go_simp
            refine turn_steady (.string x53.text) rfl rfl (fun W' hS => ?_) ?_
            · try unfold tokV
              try unfold ptr
              obtain ⟨hS0, hS1⟩ := hS
              obtain ⟨s00, s01, s02, s03, s04⟩ := four_facts hS0
              clear hS0
              obtain ⟨s10, s11, s12, s13, s14, s15, s16, s17, s18, s19, s110⟩ := five_facts hS1
              clear hS1
              go_simp
            refine turn_steady (.agg #[.int .i64 x6k, .string x6t, .int .i64 x6l, .int .i64 x6c, .slice a7 x6s.length cap8]) rfl rfl (fun W' hS => ?_) ?_
            · try unfold tokV
              try unfold ptr
              obtain ⟨hS0, hS1⟩ := hS
              obtain ⟨s00, s01, s02, s03, s04⟩ := four_facts hS0
              clear hS0
              obtain ⟨s10, s11, s12, s13, s14, s15, s16, s17, s18, s19, s110⟩ := five_facts hS1
              clear hS1
              go_simp
            refine turn_steady (ptr bp) rfl rfl (fun W' hS => ?_) ?_
            · try unfold tokV
              try unfold ptr
              obtain ⟨hS0, hS1⟩ := hS
              obtain ⟨s00, s01, s02, s03, s04⟩ := four_facts hS0
              clear hS0
              obtain ⟨s10, s11, s12, s13, s14, s15, s16, s17, s18, s19, s110⟩ := five_facts hS1
              clear hS1
              go_simp
            refine turn_heavy rfl (fun K60 hK60 => ?_)
            try unfold tokV ptr
            go_wp2_with fail
            have hne : (pSum en L) ts52 (dp) ≠ .out := fun h => Hr.out (Hsp51.out.trans (bind_out h))
            have Hc61 := Lib.hid (Hx.out W54.drew ts52 (dp) H59.out.ps (by omega) (by omega) hne)
            try unfold ptr at Hc61
            clear hne
            refine Hc61.out.mono ?_
            rintro e w62 ⟨hg, hq⟩
            cases hm : (pSum en L) ts52 (dp) with
            | out => exact absurd (Hsp51.out.trans (bind_out hm)) Hr.out
            | err ex el ec =>
              rw [hm] at hq
              obtain rfl := hq
              have Hf : Hid (pExpr en L ts dp = .err ex el ec) := Lib.hid (Hsp51.out.trans (bind_err hm))
              clear hm
              refine ⟨rfl, ?_⟩
              rw [Hf.out]
              exact ⟨grownBy_trans H59.out.grown hg, rfl⟩
            | ok x66 ts65 dq =>
              have hdq : dp = dq := by have := hi _ _ _ _ _ hm; omega
              subst hdq
              rw [hm] at hq
              obtain ⟨x66k, x66t, x66l, x66c, x66s⟩ := x66
              obtain ⟨hps, v, rfl, hv⟩ := hq
              obtain ⟨a67, cap68, rfl, hrow⟩ := NodeV.open hv
              have Hccap68 := Lib.hid (NodeV.cap hv)
              have H63 := Lib.hid ((H59.out.call hg hps).row hrow H59.out.grown.size H59.out.lt)
              clear hv hrow
              have Hsp64 := Lib.hid (Hsp51.out.trans (bind_ok hm))
              clear hm hg hps Hc61 H59 Hsp51
              go_wp2_with fail
              refine hK60 _ _ (fun _ => ⟨H63.out.at (by simp), H63.out.at (by simp)⟩) ?_
              refine turn_heavy rfl (fun K69 hK69 => ?_)
              try unfold tokV ptr
              go_wp2_with fail
              have H70 := Lib.hid (H63.out.lit 83 [[.int .i64 x6k, .string x6t, .int .i64 x6l, .int .i64 x6c, .slice a7 x6s.length cap8], [.int .i64 x66k, .string x66t, .int .i64 x66l, .int .i64 x66c, .slice a67 x66s.length cap68]] [.mk x6k x6t x6l x6c x6s, .mk x66k x66t x66l x66c x66s] rfl (by simp) rfl (fun j n c hj hc => by
                have hjl := (List.getElem?_eq_some_iff.1 hc).1
                simp only [List.length_cons, List.length_nil] at hjl
                obtain rfl | rfl : j = 0 ∨ j = 1 := by omega
                · simp at hj hc
                  subst hj hc
                  exact ⟨_, _, _, _, _, _, _, rfl, rfl, .inl (by simp)⟩
                · simp at hj hc
                  subst hj hc
                  exact ⟨_, _, _, _, _, _, _, rfl, rfl, .inl (by simp)⟩))
              clear H63
              refine hK69 _ _ (fun _ => ⟨H70.out.at (by simp), H70.out.at (by simp)⟩) ?_
              refine turn_heavy rfl (fun K71 hK71 => ?_)
              try unfold tokV ptr
              go_wp2_with fail
              have Hnd := Lib.hid (node_any 16 x53 x53.text (some ⟨w62.heap.size, 0, none⟩) 2 2 (w62.alloc (.cells #[.int .i64 x6k, .string x6t, .int .i64 x6l, .int .i64 x6c, .slice a7 x6s.length cap8, .int .i64 x66k, .string x66t, .int .i64 x66l, .int .i64 x66c, .slice a67 x66s.length cap68] 83)))
              unfold tokV nodeC at Hnd
              refine Hnd.out.mono ?_
              rintro e w72 ⟨rfl, hb⟩
              have H73 := Lib.hid (H70.out.below hb)
              clear hb Hnd H70
              go_wp2_with fail
              refine hK71 _ _ (fun _ => ⟨H73.out.at (by simp), H73.out.at (by simp)⟩) ?_
              obtain ⟨r74, r75, r76, r77, r78, r79, r80, r81, r82, r83, r84⟩ := five_facts (H73.out.at (b := w.heap.size) (cs := #[.int .i64 0, .string ⟨#[]⟩, .int .i64 0, .int .i64 0, .slice none 0 0]) (T := 83) (by simp))
              refine turn_heavy rfl (fun K85 hK85 => ?_)
              try unfold tokV ptr
              go_wp2_with fail
              refine hK85 _ _ (fun h => absurd rfl h) ?_
              refine turn_end ?_
              go_wp2_with fail
              refine bodyPost_ret (v := .agg #[.int .i64 16, .string x53.text, .int .i64 x53.line, .int .i64 x53.col, .slice (some ⟨w62.heap.size, 0, none⟩) 2 2]) (by simp [results, Tryz.results155, go_sem, r75, r76, r77, r78, r79]) rfl ?_
              have G := Lib.hid (H73.out.put5 2 rfl (.int .i64 16) (.string x53.text) (.int .i64 x53.line) (.int .i64 x53.col) (.slice (some ⟨w62.heap.size, 0, none⟩) 2 2))
              rw [Hsp64.out]
              exact ⟨G.out.grown, G.out.ps, _, rfl, NodeV.mk _ _ _ _ _ (G.out.hand (by simp))⟩
      · try rw [h2]
        have Hsp86 : Hid (pExpr en L ts dp = PM.bind (pTake en true) (fun t => PM.bind (pSum en L) fun y => PM.pure (nodeT 16 t t.text [.mk x6k x6t x6l x6c x6s, y])) ts5 dp) := Lib.hid (by rw [Hsp14.out, h1, h2] <;> rfl)
        clear Hsp14
        have hne : (pTake en true) ts5 (dp) ≠ .out := fun h => Hr.out (Hsp86.out.trans (bind_out h))
        have Hc87 := Lib.hid (take_any bp true en ts5 (dp) w19 H20.out.ps hne)
        try unfold ptr at Hc87
        clear hne
        go_wp2_with fail
        refine Hc87.out.mono ?_
        rintro e w88 ⟨hg, hq⟩
        cases hm : (pTake en true) ts5 (dp) with
        | out => exact absurd (Hsp86.out.trans (bind_out hm)) Hr.out
        | err ex el ec =>
          rw [hm] at hq
          obtain rfl := hq
          have Hf : Hid (pExpr en L ts dp = .err ex el ec) := Lib.hid (Hsp86.out.trans (bind_err hm))
          clear hm
          refine ⟨rfl, ?_⟩
          rw [Hf.out]
          exact ⟨grownBy_trans H20.out.grown hg, rfl⟩
        | ok x92 ts91 dq =>
          have hdq : dp = dq := by have := Inc.take _ _ _ _ _ _ hm; omega
          subst hdq
          rw [hm] at hq
          obtain ⟨hps, v, rfl, rfl⟩ := hq
          have H89 := Lib.hid (H20.out.call hg hps)
          try unfold tokV
          have Hsp90 := Lib.hid (Hsp86.out.trans (bind_ok hm))
          clear hm hg hps Hc87 H20 Hsp86
          have H94 := Lib.hid (H89.out.alloc #[.int .i64 x92.kind, .string x92.text, .int .i64 x92.line, .int .i64 x92.col] 157)
          clear H89
          obtain ⟨W93, hW⟩ : ∃ X, X = w88.alloc (.cells #[.int .i64 x92.kind, .string x92.text, .int .i64 x92.line, .int .i64 x92.col] 157) := ⟨_, rfl⟩
          rw [← hW] at H94
          have HW96 := Lib.hid hW
          clear hW
          generalize hb : w88.heap.size = b95 at H94
          have Hb97 := Lib.hid hb
          clear hb
          go_wp2_with fail
          rw [← HW96.out, Hb97.out]
          clear HW96 Hb97
          have H98 := Lib.hid H94.out.drew
          clear H94
          go_wp2_with fail
          refine wp_region_turns (.s 0 (.s 1 (.s 2 (.s 3 (.s 4 (.h 5 (.h 6 (.h 7 (.h 8 .nil))))))))) 8 (fun W' => W'.heap[b95]? = some (.cells #[.int .i64 x92.kind, .string x92.text, .int .i64 x92.line, .int .i64 x92.col] 157 (0, 0)) ∧ W'.heap[b11]? = some (.cells #[.int .i64 x6k, .string x6t, .int .i64 x6l, .int .i64 x6c, .slice a7 x6s.length cap8] 83 (0, 0))) (by kernel_rfl) (by kernel_rfl) (fun c a d v w h => by cases d <;> exact h) (⟨H98.out.at (by simp), H98.out.at (by simp)⟩) ?_
          refine turn_steady (tokV x92) rfl rfl (fun W' hS => ?_) ?_
          · try unfold tokV
            try unfold ptr
            obtain ⟨hS0, hS1⟩ := hS
            obtain ⟨s00, s01, s02, s03, s04⟩ := four_facts hS0
            clear hS0
            obtain ⟨s10, s11, s12, s13, s14, s15, s16, s17, s18, s19, s110⟩ := five_facts hS1
            clear hS1
            go_simp
          refine turn_steady (.pointer (some ⟨b95, 1, none⟩)) rfl rfl (fun W' hS => ?_) ?_
          · try unfold tokV
            try unfold ptr
            obtain ⟨hS0, hS1⟩ := hS
            obtain ⟨s00, s01, s02, s03, s04⟩ := four_facts hS0
            clear hS0
            obtain ⟨s10, s11, s12, s13, s14, s15, s16, s17, s18, s19, s110⟩ := five_facts hS1
            clear hS1
            go_simp
          refine turn_steady (.string x92.text) rfl rfl (fun W' hS => ?_) ?_
          · try unfold tokV
            try unfold ptr
            obtain ⟨hS0, hS1⟩ := hS
            obtain ⟨s00, s01, s02, s03, s04⟩ := four_facts hS0
            clear hS0
            obtain ⟨s10, s11, s12, s13, s14, s15, s16, s17, s18, s19, s110⟩ := five_facts hS1
            clear hS1
            go_simp
          refine turn_steady (.agg #[.int .i64 x6k, .string x6t, .int .i64 x6l, .int .i64 x6c, .slice a7 x6s.length cap8]) rfl rfl (fun W' hS => ?_) ?_
          · try unfold tokV
            try unfold ptr
            obtain ⟨hS0, hS1⟩ := hS
            obtain ⟨s00, s01, s02, s03, s04⟩ := four_facts hS0
            clear hS0
            obtain ⟨s10, s11, s12, s13, s14, s15, s16, s17, s18, s19, s110⟩ := five_facts hS1
            clear hS1
            go_simp
          refine turn_steady (ptr bp) rfl rfl (fun W' hS => ?_) ?_
          · try unfold tokV
            try unfold ptr
            obtain ⟨hS0, hS1⟩ := hS
            obtain ⟨s00, s01, s02, s03, s04⟩ := four_facts hS0
            clear hS0
            obtain ⟨s10, s11, s12, s13, s14, s15, s16, s17, s18, s19, s110⟩ := five_facts hS1
            clear hS1
            go_simp
          refine turn_heavy rfl (fun K99 hK99 => ?_)
          try unfold tokV ptr
          go_wp2_with fail
          have hne : (pSum en L) ts91 (dp) ≠ .out := fun h => Hr.out (Hsp90.out.trans (bind_out h))
          have Hc100 := Lib.hid (Hx.out W93.drew ts91 (dp) H98.out.ps (by omega) (by omega) hne)
          try unfold ptr at Hc100
          clear hne
          refine Hc100.out.mono ?_
          rintro e w101 ⟨hg, hq⟩
          cases hm : (pSum en L) ts91 (dp) with
          | out => exact absurd (Hsp90.out.trans (bind_out hm)) Hr.out
          | err ex el ec =>
            rw [hm] at hq
            obtain rfl := hq
            have Hf : Hid (pExpr en L ts dp = .err ex el ec) := Lib.hid (Hsp90.out.trans (bind_err hm))
            clear hm
            refine ⟨rfl, ?_⟩
            rw [Hf.out]
            exact ⟨grownBy_trans H98.out.grown hg, rfl⟩
          | ok x105 ts104 dq =>
            have hdq : dp = dq := by have := hi _ _ _ _ _ hm; omega
            subst hdq
            rw [hm] at hq
            obtain ⟨x105k, x105t, x105l, x105c, x105s⟩ := x105
            obtain ⟨hps, v, rfl, hv⟩ := hq
            obtain ⟨a106, cap107, rfl, hrow⟩ := NodeV.open hv
            have Hccap107 := Lib.hid (NodeV.cap hv)
            have H102 := Lib.hid ((H98.out.call hg hps).row hrow H98.out.grown.size H98.out.lt)
            clear hv hrow
            have Hsp103 := Lib.hid (Hsp90.out.trans (bind_ok hm))
            clear hm hg hps Hc100 H98 Hsp90
            go_wp2_with fail
            refine hK99 _ _ (fun _ => ⟨H102.out.at (by simp), H102.out.at (by simp)⟩) ?_
            refine turn_heavy rfl (fun K108 hK108 => ?_)
            try unfold tokV ptr
            go_wp2_with fail
            have H109 := Lib.hid (H102.out.lit 83 [[.int .i64 x6k, .string x6t, .int .i64 x6l, .int .i64 x6c, .slice a7 x6s.length cap8], [.int .i64 x105k, .string x105t, .int .i64 x105l, .int .i64 x105c, .slice a106 x105s.length cap107]] [.mk x6k x6t x6l x6c x6s, .mk x105k x105t x105l x105c x105s] rfl (by simp) rfl (fun j n c hj hc => by
              have hjl := (List.getElem?_eq_some_iff.1 hc).1
              simp only [List.length_cons, List.length_nil] at hjl
              obtain rfl | rfl : j = 0 ∨ j = 1 := by omega
              · simp at hj hc
                subst hj hc
                exact ⟨_, _, _, _, _, _, _, rfl, rfl, .inl (by simp)⟩
              · simp at hj hc
                subst hj hc
                exact ⟨_, _, _, _, _, _, _, rfl, rfl, .inl (by simp)⟩))
            clear H102
            refine hK108 _ _ (fun _ => ⟨H109.out.at (by simp), H109.out.at (by simp)⟩) ?_
            refine turn_heavy rfl (fun K110 hK110 => ?_)
            try unfold tokV ptr
            go_wp2_with fail
            have Hnd := Lib.hid (node_any 16 x92 x92.text (some ⟨w101.heap.size, 0, none⟩) 2 2 (w101.alloc (.cells #[.int .i64 x6k, .string x6t, .int .i64 x6l, .int .i64 x6c, .slice a7 x6s.length cap8, .int .i64 x105k, .string x105t, .int .i64 x105l, .int .i64 x105c, .slice a106 x105s.length cap107] 83)))
            unfold tokV nodeC at Hnd
            refine Hnd.out.mono ?_
            rintro e w111 ⟨rfl, hb⟩
            have H112 := Lib.hid (H109.out.below hb)
            clear hb Hnd H109
            go_wp2_with fail
            refine hK110 _ _ (fun _ => ⟨H112.out.at (by simp), H112.out.at (by simp)⟩) ?_
            obtain ⟨r113, r114, r115, r116, r117, r118, r119, r120, r121, r122, r123⟩ := five_facts (H112.out.at (b := w.heap.size) (cs := #[.int .i64 0, .string ⟨#[]⟩, .int .i64 0, .int .i64 0, .slice none 0 0]) (T := 83) (by simp))
            refine turn_heavy rfl (fun K124 hK124 => ?_)
            try unfold tokV ptr
            go_wp2_with fail
            refine hK124 _ _ (fun h => absurd rfl h) ?_
            refine turn_end ?_
            go_wp2_with fail
            refine bodyPost_ret (v := .agg #[.int .i64 16, .string x92.text, .int .i64 x92.line, .int .i64 x92.col, .slice (some ⟨w101.heap.size, 0, none⟩) 2 2]) (by simp [results, Tryz.results155, go_sem, r114, r115, r116, r117, r118]) rfl ?_
            have G := Lib.hid (H112.out.put5 2 rfl (.int .i64 16) (.string x92.text) (.int .i64 x92.line) (.int .i64 x92.col) (.slice (some ⟨w101.heap.size, 0, none⟩) 2 2))
            rw [Hsp103.out]
            exact ⟨G.out.grown, G.out.ps, _, rfl, NodeV.mk _ _ _ _ _ (G.out.hand (by simp))⟩
    · try rw [h1]
      have Hsp125 : Hid (pExpr en L ts dp = PM.bind (pTake en true) (fun t => PM.bind (pSum en L) fun y => PM.pure (nodeT 16 t t.text [.mk x6k x6t x6l x6c x6s, y])) ts5 dp) := Lib.hid (by rw [Hsp14.out, h1] <;> rfl)
      clear Hsp14
      have hne : (pTake en true) ts5 (dp) ≠ .out := fun h => Hr.out (Hsp125.out.trans (bind_out h))
      have Hc126 := Lib.hid (take_any bp true en ts5 (dp) w16 H17.out.ps hne)
      try unfold ptr at Hc126
      clear hne
      go_wp2_with fail
      refine Hc126.out.mono ?_
      rintro e w127 ⟨hg, hq⟩
      cases hm : (pTake en true) ts5 (dp) with
      | out => exact absurd (Hsp125.out.trans (bind_out hm)) Hr.out
      | err ex el ec =>
        rw [hm] at hq
        obtain rfl := hq
        have Hf : Hid (pExpr en L ts dp = .err ex el ec) := Lib.hid (Hsp125.out.trans (bind_err hm))
        clear hm
        refine ⟨rfl, ?_⟩
        rw [Hf.out]
        exact ⟨grownBy_trans H17.out.grown hg, rfl⟩
      | ok x131 ts130 dq =>
        have hdq : dp = dq := by have := Inc.take _ _ _ _ _ _ hm; omega
        subst hdq
        rw [hm] at hq
        obtain ⟨hps, v, rfl, rfl⟩ := hq
        have H128 := Lib.hid (H17.out.call hg hps)
        try unfold tokV
        have Hsp129 := Lib.hid (Hsp125.out.trans (bind_ok hm))
        clear hm hg hps Hc126 H17 Hsp125
        have H133 := Lib.hid (H128.out.alloc #[.int .i64 x131.kind, .string x131.text, .int .i64 x131.line, .int .i64 x131.col] 157)
        clear H128
        obtain ⟨W132, hW⟩ : ∃ X, X = w127.alloc (.cells #[.int .i64 x131.kind, .string x131.text, .int .i64 x131.line, .int .i64 x131.col] 157) := ⟨_, rfl⟩
        rw [← hW] at H133
        have HW135 := Lib.hid hW
        clear hW
        generalize hb : w127.heap.size = b134 at H133
        have Hb136 := Lib.hid hb
        clear hb
        go_wp2_with fail
        rw [← HW135.out, Hb136.out]
        clear HW135 Hb136
        have H137 := Lib.hid H133.out.drew
        clear H133
        go_wp2_with fail
        refine wp_region_turns (.s 0 (.s 1 (.s 2 (.s 3 (.s 4 (.h 5 (.h 6 (.h 7 (.h 8 .nil))))))))) 8 (fun W' => W'.heap[b134]? = some (.cells #[.int .i64 x131.kind, .string x131.text, .int .i64 x131.line, .int .i64 x131.col] 157 (0, 0)) ∧ W'.heap[b11]? = some (.cells #[.int .i64 x6k, .string x6t, .int .i64 x6l, .int .i64 x6c, .slice a7 x6s.length cap8] 83 (0, 0))) (by kernel_rfl) (by kernel_rfl) (fun c a d v w h => by cases d <;> exact h) (⟨H137.out.at (by simp), H137.out.at (by simp)⟩) ?_
        refine turn_steady (tokV x131) rfl rfl (fun W' hS => ?_) ?_
        · try unfold tokV
          try unfold ptr
          obtain ⟨hS0, hS1⟩ := hS
          obtain ⟨s00, s01, s02, s03, s04⟩ := four_facts hS0
          clear hS0
          obtain ⟨s10, s11, s12, s13, s14, s15, s16, s17, s18, s19, s110⟩ := five_facts hS1
          clear hS1
          go_simp
        refine turn_steady (.pointer (some ⟨b134, 1, none⟩)) rfl rfl (fun W' hS => ?_) ?_
        · try unfold tokV
          try unfold ptr
          obtain ⟨hS0, hS1⟩ := hS
          obtain ⟨s00, s01, s02, s03, s04⟩ := four_facts hS0
          clear hS0
          obtain ⟨s10, s11, s12, s13, s14, s15, s16, s17, s18, s19, s110⟩ := five_facts hS1
          clear hS1
          go_simp
        refine turn_steady (.string x131.text) rfl rfl (fun W' hS => ?_) ?_
        · try unfold tokV
          try unfold ptr
          obtain ⟨hS0, hS1⟩ := hS
          obtain ⟨s00, s01, s02, s03, s04⟩ := four_facts hS0
          clear hS0
          obtain ⟨s10, s11, s12, s13, s14, s15, s16, s17, s18, s19, s110⟩ := five_facts hS1
          clear hS1
          go_simp
        refine turn_steady (.agg #[.int .i64 x6k, .string x6t, .int .i64 x6l, .int .i64 x6c, .slice a7 x6s.length cap8]) rfl rfl (fun W' hS => ?_) ?_
        · try unfold tokV
          try unfold ptr
          obtain ⟨hS0, hS1⟩ := hS
          obtain ⟨s00, s01, s02, s03, s04⟩ := four_facts hS0
          clear hS0
          obtain ⟨s10, s11, s12, s13, s14, s15, s16, s17, s18, s19, s110⟩ := five_facts hS1
          clear hS1
          go_simp
        refine turn_steady (ptr bp) rfl rfl (fun W' hS => ?_) ?_
        · try unfold tokV
          try unfold ptr
          obtain ⟨hS0, hS1⟩ := hS
          obtain ⟨s00, s01, s02, s03, s04⟩ := four_facts hS0
          clear hS0
          obtain ⟨s10, s11, s12, s13, s14, s15, s16, s17, s18, s19, s110⟩ := five_facts hS1
          clear hS1
          go_simp
        refine turn_heavy rfl (fun K138 hK138 => ?_)
        try unfold tokV ptr
        go_wp2_with fail
        have hne : (pSum en L) ts130 (dp) ≠ .out := fun h => Hr.out (Hsp129.out.trans (bind_out h))
        have Hc139 := Lib.hid (Hx.out W132.drew ts130 (dp) H137.out.ps (by omega) (by omega) hne)
        try unfold ptr at Hc139
        clear hne
        refine Hc139.out.mono ?_
        rintro e w140 ⟨hg, hq⟩
        cases hm : (pSum en L) ts130 (dp) with
        | out => exact absurd (Hsp129.out.trans (bind_out hm)) Hr.out
        | err ex el ec =>
          rw [hm] at hq
          obtain rfl := hq
          have Hf : Hid (pExpr en L ts dp = .err ex el ec) := Lib.hid (Hsp129.out.trans (bind_err hm))
          clear hm
          refine ⟨rfl, ?_⟩
          rw [Hf.out]
          exact ⟨grownBy_trans H137.out.grown hg, rfl⟩
        | ok x144 ts143 dq =>
          have hdq : dp = dq := by have := hi _ _ _ _ _ hm; omega
          subst hdq
          rw [hm] at hq
          obtain ⟨x144k, x144t, x144l, x144c, x144s⟩ := x144
          obtain ⟨hps, v, rfl, hv⟩ := hq
          obtain ⟨a145, cap146, rfl, hrow⟩ := NodeV.open hv
          have Hccap146 := Lib.hid (NodeV.cap hv)
          have H141 := Lib.hid ((H137.out.call hg hps).row hrow H137.out.grown.size H137.out.lt)
          clear hv hrow
          have Hsp142 := Lib.hid (Hsp129.out.trans (bind_ok hm))
          clear hm hg hps Hc139 H137 Hsp129
          go_wp2_with fail
          refine hK138 _ _ (fun _ => ⟨H141.out.at (by simp), H141.out.at (by simp)⟩) ?_
          refine turn_heavy rfl (fun K147 hK147 => ?_)
          try unfold tokV ptr
          go_wp2_with fail
          have H148 := Lib.hid (H141.out.lit 83 [[.int .i64 x6k, .string x6t, .int .i64 x6l, .int .i64 x6c, .slice a7 x6s.length cap8], [.int .i64 x144k, .string x144t, .int .i64 x144l, .int .i64 x144c, .slice a145 x144s.length cap146]] [.mk x6k x6t x6l x6c x6s, .mk x144k x144t x144l x144c x144s] rfl (by simp) rfl (fun j n c hj hc => by
            have hjl := (List.getElem?_eq_some_iff.1 hc).1
            simp only [List.length_cons, List.length_nil] at hjl
            obtain rfl | rfl : j = 0 ∨ j = 1 := by omega
            · simp at hj hc
              subst hj hc
              exact ⟨_, _, _, _, _, _, _, rfl, rfl, .inl (by simp)⟩
            · simp at hj hc
              subst hj hc
              exact ⟨_, _, _, _, _, _, _, rfl, rfl, .inl (by simp)⟩))
          clear H141
          refine hK147 _ _ (fun _ => ⟨H148.out.at (by simp), H148.out.at (by simp)⟩) ?_
          refine turn_heavy rfl (fun K149 hK149 => ?_)
          try unfold tokV ptr
          go_wp2_with fail
          have Hnd := Lib.hid (node_any 16 x131 x131.text (some ⟨w140.heap.size, 0, none⟩) 2 2 (w140.alloc (.cells #[.int .i64 x6k, .string x6t, .int .i64 x6l, .int .i64 x6c, .slice a7 x6s.length cap8, .int .i64 x144k, .string x144t, .int .i64 x144l, .int .i64 x144c, .slice a145 x144s.length cap146] 83)))
          unfold tokV nodeC at Hnd
          refine Hnd.out.mono ?_
          rintro e w150 ⟨rfl, hb⟩
          have H151 := Lib.hid (H148.out.below hb)
          clear hb Hnd H148
          go_wp2_with fail
          refine hK149 _ _ (fun _ => ⟨H151.out.at (by simp), H151.out.at (by simp)⟩) ?_
          obtain ⟨r152, r153, r154, r155, r156, r157, r158, r159, r160, r161, r162⟩ := five_facts (H151.out.at (b := w.heap.size) (cs := #[.int .i64 0, .string ⟨#[]⟩, .int .i64 0, .int .i64 0, .slice none 0 0]) (T := 83) (by simp))
          refine turn_heavy rfl (fun K163 hK163 => ?_)
          try unfold tokV ptr
          go_wp2_with fail
          refine hK163 _ _ (fun h => absurd rfl h) ?_
          refine turn_end ?_
          go_wp2_with fail
          refine bodyPost_ret (v := .agg #[.int .i64 16, .string x131.text, .int .i64 x131.line, .int .i64 x131.col, .slice (some ⟨w140.heap.size, 0, none⟩) 2 2]) (by simp [results, Tryz.results155, go_sem, r153, r154, r155, r156, r157]) rfl ?_
          have G := Lib.hid (H151.out.put5 2 rfl (.int .i64 16) (.string x131.text) (.int .i64 x131.line) (.int .i64 x131.col) (.slice (some ⟨w140.heap.size, 0, none⟩) 2 2))
          rw [Hsp142.out]
          exact ⟨G.out.grown, G.out.ps, _, rfl, NodeV.mk _ _ _ _ _ (G.out.hand (by simp))⟩

end Go.Proofs.YthknljeffpbbmaaGreatDoor
namespace Go.Proofs.YthknljeffpbbmaaGreatDoor
open Go Go.RowKit

theorem does_out {α : Type} {f bp : Nat} {en : Int × Int} {val : Nat → α → World → Value → Prop} : Does f bp en val (fun _ _ => (.out : PR α)) := fun _ _ _ _ _ _ h => absurd rfl h
theorem lvl_does (bp : Nat) (en : Int × Int) : ∀ n, Does 155 bp en VNode (lvl en n).expr ∧ Does 185 bp en VNode (lvl en n).prim ∧ Does 129 bp en VNode (lvl en n).stmt
  | 0 => ⟨does_out, does_out, does_out⟩
  | n + 1 => by
    obtain ⟨h1, h2, h3⟩ := lvl_does bp en n
    have hL := LInc.lvl en n
    have harg := arg_any bp en (lvl en n) hL h1
    have hcall := call_any bp en (lvl en n) hL harg
    have hentry := entry_any bp en (lvl en n) hL h1
    have hprim := prim_any bp en (lvl en n) hL h1 h2 hcall hentry
    have hsum := sum_any bp en (lvl en n) (Inc.prim hL) hprim
    have hexpr := expr_any bp en (lvl en n) (Inc.sum hL) hsum
    have hblock := block_any bp en (lvl en n) hL h3
    have hparam := param_any bp en (lvl en n) hL hexpr
    have hrule := rule_any bp en (lvl en n) hL hparam hblock
    have hstmt := stmt_any bp en (lvl en n) hL hexpr hblock hrule hcall
    exact ⟨hexpr, hprim, hstmt⟩

theorem tokensL_few : ∀ (f : Nat) (p : Int × Int) (l : List UInt8) (ts : List Tok), tokensL f p l = .ok ts → ts.length ≤ f
  | 0, _, _, ts, h => by cases h; simp
  | f + 1, p, l, ts, h => by
    rw [tokensL] at h
    split at h
    · cases h; simp
    · split at h
      · cases h
      · split at h
        · cases h
        · rename_i ts' h'
          have := tokensL_few f _ _ _ h'
          cases h
          split
          · simp; exact this
          · omega
theorem lexL_few {l : List UInt8} {ts : List Tok} (h : lexL l = .ok ts) : ts.length ≤ 65537 := by
  unfold lexL at h
  split at h
  · cases h
  · have := tokensL_few _ _ _ _ h
    omega
end Go.Proofs.YthknljeffpbbmaaGreatDoor
