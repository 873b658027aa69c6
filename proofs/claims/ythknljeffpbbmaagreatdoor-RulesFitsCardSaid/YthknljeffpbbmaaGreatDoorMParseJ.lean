/-
  Walks of the parser: stmt. (Printed by parse_gen.py.)
  Walks of the parser: arg. (Printed by parse_gen.py.)
  Walks of the parser: sum. (Printed by parse_gen.py.)
-/
import Derived.Test.YthknljeffpbbmaaGreatDoorMParseR
import Derived.Test.YthknljeffpbbmaaGreatDoorMParseN
namespace Go.Proofs.YthknljeffpbbmaaGreatDoor
open Go Go.RowKit

set_option maxRecDepth 100000 in
set_option maxHeartbeats 8000000 in
theorem stmt_any (bp : Nat) (en : Int × Int) (L : Lvl) (hL : LInc L) (hx : Does 155 bp en VNode (pExpr en L)) (hb0 : Does 156 bp en VNode (pBlock en L)) (hr0 : Does 157 bp en VNode (pRule en L)) (hc : Does 158 bp en VNode (pCall en L)) : Does 129 bp en VNode (pStmt en L) := by
  intro w ts dp hp hd0 hd1 hr
  have Hr := Lib.hid hr
  have Hx := Lib.hid hx
  have Hb0 := Lib.hid hb0
  have Hr0 := Lib.hid hr0
  have Hc := Lib.hid hc
  clear hx hb0 hr0 hc
  have hsp : pStmt en L ts dp = (if isWordT en ts [102, 111, 114] then PM.bind (pTake en true) (fun _ => pLook fun us => PM.bind (pTake en (isNameT en us)) (fun name => pLook fun us => PM.bind (pTake en (isWordT en us [105, 110])) (fun _ => PM.bind (pExpr en L) (fun x => PM.bind (pBlock en L) fun b => PM.pure (nodeT 4 (tokAt en ts 0) name.text [x, b]))))) else if isWordT en ts [105, 102] then PM.bind (pTake en true) (fun _ => PM.bind (pExpr en L) fun x => PM.bind (pBlock en L) fun b => pLook fun us => (if isWordT en us [101, 108, 115, 101] then PM.bind (pTake en true) fun _ => PM.bind (pBlock en L) fun c => PM.pure (nodeT 5 (tokAt en ts 0) ⟨#[]⟩ [x, b, c]) else PM.pure (nodeT 5 (tokAt en ts 0) ⟨#[]⟩ [x, b]))) else if isWordT en ts [114, 117, 108, 101] then pRule en L else if isNameT en ts && isSign en ts 1 [40] then PM.bind (pCall en L) (fun c => PM.bind (pEat en [59]) fun _ => PM.pure (nodeT 3 (tokAt en ts 0) ⟨#[]⟩ [c])) else PM.bind (pTake en (isNameT en ts)) (fun name => PM.bind (pEat en [61]) fun _ => PM.bind (pExpr en L) fun x => PM.bind (pEat en [59]) fun _ => PM.pure (nodeT 2 (tokAt en ts 0) name.text [x]))) ts dp := rfl
  have Hsp := Lib.hid hsp
  have H0 := Lib.hid ((PI.start hp).alloc #[.int .i64 0, .string ⟨#[]⟩, .int .i64 0, .int .i64 0, .slice none 0 0] 83)
  clear hp hr hsp
  unfold ptr
  go_enter Tryz.func129, Tryz.ntmps129
  go_wp2_with fail
  have Hc1 := Lib.hid (at_any bp 0 en ts (dp) (w.alloc (.cells #[.int .i64 0, .string ⟨#[]⟩, .int .i64 0, .int .i64 0, .slice none 0 0] 83)) (by omega) H0.out.ps)
  try unfold ptr at Hc1
  refine Hc1.out.mono ?_
  rintro e w2 ⟨rfl, hb⟩
  have H3 := Lib.hid (H0.out.below hb)
  clear hb Hc1 H0
  try unfold tokV
  generalize tokAt en ts 0 = t at Hsp ⊢
  have H5 := Lib.hid (H3.out.alloc #[.int .i64 t.kind, .string t.text, .int .i64 t.line, .int .i64 t.col] 157)
  clear H3
  obtain ⟨W4, hW⟩ : ∃ X, X = w2.alloc (.cells #[.int .i64 t.kind, .string t.text, .int .i64 t.line, .int .i64 t.col] 157) := ⟨_, rfl⟩
  rw [← hW] at H5
  have HW7 := Lib.hid hW
  clear hW
  generalize hb : w2.heap.size = b6 at H5
  have Hb8 := Lib.hid hb
  clear hb
  go_wp2_with fail
  rw [← HW7.out, Hb8.out]
  clear HW7 Hb8
  have Hc9 := Lib.hid (word_any bp ⟨#[102, 111, 114]⟩ en ts (dp) W4 H5.out.ps)
  try unfold ptr at Hc9
  refine Hc9.out.mono ?_
  rintro e w10 ⟨rfl, hb⟩
  have H11 := Lib.hid (H5.out.below hb)
  clear hb Hc9 H5
  cases h1 : isWordT en ts [102, 111, 114]
  case' true => have E1 := Lib.hid h1
  case' false => have E1 := Lib.hid h1
  · try rw [h1]
    clear h1
    have Hc12 := Lib.hid (word_any bp ⟨#[105, 102]⟩ en ts (dp) w10 H11.out.ps)
    try unfold ptr at Hc12
    go_wp2_with fail
    refine Hc12.out.mono ?_
    rintro e w13 ⟨rfl, hb⟩
    have H14 := Lib.hid (H11.out.below hb)
    clear hb Hc12 H11
    cases h2 : isWordT en ts [105, 102]
    case' true => have E2 := Lib.hid h2
    case' false => have E2 := Lib.hid h2
    · try rw [h2]
      clear h2
      have Hc15 := Lib.hid (word_any bp ⟨#[114, 117, 108, 101]⟩ en ts (dp) w13 H14.out.ps)
      try unfold ptr at Hc15
      go_wp2_with fail
      refine Hc15.out.mono ?_
      rintro e w16 ⟨rfl, hb⟩
      have H17 := Lib.hid (H14.out.below hb)
      clear hb Hc15 H14
      cases h3 : isWordT en ts [114, 117, 108, 101]
      case' true => have E3 := Lib.hid h3
      case' false => have E3 := Lib.hid h3
      · try rw [h3]
        clear h3
        have Hc18 := Lib.hid (name_any bp en ts (dp) w16 H17.out.ps)
        try unfold ptr at Hc18
        go_wp2_with fail
        refine Hc18.out.mono ?_
        rintro e w19 ⟨rfl, hb⟩
        have H20 := Lib.hid (H17.out.below hb)
        clear hb Hc18 H17
        cases h4 : isNameT en ts
        case' true => have E4 := Lib.hid h4
        case' false => have E4 := Lib.hid h4
        · try rw [h4]
          clear h4
          have Hsp21 : Hid (pStmt en L ts dp = PM.bind (pTake en (isNameT en ts)) (fun name => PM.bind (pEat en [61]) fun _ => PM.bind (pExpr en L) fun x => PM.bind (pEat en [59]) fun _ => PM.pure (nodeT 2 t name.text [x])) ts dp) := Lib.hid (by rw [Hsp.out, E1.out, E2.out, E3.out, E4.out]; simp only [Bool.false_and, Bool.false_eq_true, if_false])
          clear Hsp E1 E2 E3 E4
          have Hc22 := Lib.hid (name_any bp en ts (dp) w19 H20.out.ps)
          try unfold ptr at Hc22
          go_wp2_with fail
          refine Hc22.out.mono ?_
          rintro e w23 ⟨rfl, hb⟩
          have H24 := Lib.hid (H20.out.below hb)
          clear hb Hc22 H20
          have hne : (pTake en (isNameT en ts)) ts (dp) ≠ .out := fun h => Hr.out (Hsp21.out.trans (bind_out h))
          have Hc25 := Lib.hid (take_any bp (isNameT en ts) en ts (dp) w23 H24.out.ps hne)
          try unfold ptr at Hc25
          clear hne
          go_wp2_with fail
          refine Hc25.out.mono ?_
          rintro e w26 ⟨hg, hq⟩
          cases hm : (pTake en (isNameT en ts)) ts (dp) with
          | out => exact absurd (Hsp21.out.trans (bind_out hm)) Hr.out
          | err ex el ec =>
            rw [hm] at hq
            obtain rfl := hq
            have Hf : Hid (pStmt en L ts dp = .err ex el ec) := Lib.hid (Hsp21.out.trans (bind_err hm))
            clear hm
            refine ⟨rfl, ?_⟩
            rw [Hf.out]
            exact ⟨grownBy_trans H24.out.grown hg, rfl⟩
          | ok x30 ts29 dq =>
            have hdq : dp = dq := by have := Inc.take _ _ _ _ _ _ hm; omega
            subst hdq
            rw [hm] at hq
            obtain ⟨hps, v, rfl, rfl⟩ := hq
            have H27 := Lib.hid (H24.out.call hg hps)
            try unfold tokV
            have Hsp28 := Lib.hid (Hsp21.out.trans (bind_ok hm))
            clear hm hg hps Hc25 H24 Hsp21
            have H32 := Lib.hid (H27.out.alloc #[.int .i64 x30.kind, .string x30.text, .int .i64 x30.line, .int .i64 x30.col] 157)
            clear H27
            obtain ⟨W31, hW⟩ : ∃ X, X = w26.alloc (.cells #[.int .i64 x30.kind, .string x30.text, .int .i64 x30.line, .int .i64 x30.col] 157) := ⟨_, rfl⟩
            rw [← hW] at H32
            have HW34 := Lib.hid hW
            clear hW
            generalize hb : w26.heap.size = b33 at H32
            have Hb35 := Lib.hid hb
            clear hb
            go_wp2_with fail
            rw [← HW34.out, Hb35.out]
            clear HW34 Hb35
            have hne : (pEat en [61]) ts29 (dp) ≠ .out := fun h => Hr.out (Hsp28.out.trans (bind_out h))
            have Hc36 := Lib.hid (eat_any bp ⟨#[61]⟩ en ts29 (dp) W31 H32.out.ps hne)
            try unfold ptr at Hc36
            clear hne
            refine Hc36.out.mono ?_
            rintro e w37 ⟨hg, hq⟩
            cases hm : (pEat en [61]) ts29 (dp) with
            | out => exact absurd (Hsp28.out.trans (bind_out hm)) Hr.out
            | err ex el ec =>
              rw [hm] at hq
              obtain rfl := hq
              have Hf : Hid (pStmt en L ts dp = .err ex el ec) := Lib.hid (Hsp28.out.trans (bind_err hm))
              clear hm
              refine ⟨rfl, ?_⟩
              rw [Hf.out]
              exact ⟨grownBy_trans H32.out.grown hg, rfl⟩
            | ok x41 ts40 dq =>
              have hdq : dp = dq := by have := Inc.eat _ _ _ _ _ _ hm; omega
              subst hdq
              rw [hm] at hq
              obtain ⟨hps, v, rfl, -⟩ := hq
              have H38 := Lib.hid (H32.out.call hg hps)
              have Hsp39 := Lib.hid (Hsp28.out.trans (bind_ok hm))
              clear hm hg hps Hc36 H32 Hsp28
              have hne : (pExpr en L) ts40 (dp) ≠ .out := fun h => Hr.out (Hsp39.out.trans (bind_out h))
              have Hc42 := Lib.hid (Hx.out w37 ts40 (dp) H38.out.ps (by omega) (by omega) hne)
              try unfold ptr at Hc42
              clear hne
              go_wp2_with fail
              refine Hc42.out.mono ?_
              rintro e w43 ⟨hg, hq⟩
              cases hm : (pExpr en L) ts40 (dp) with
              | out => exact absurd (Hsp39.out.trans (bind_out hm)) Hr.out
              | err ex el ec =>
                rw [hm] at hq
                obtain rfl := hq
                have Hf : Hid (pStmt en L ts dp = .err ex el ec) := Lib.hid (Hsp39.out.trans (bind_err hm))
                clear hm
                refine ⟨rfl, ?_⟩
                rw [Hf.out]
                exact ⟨grownBy_trans H38.out.grown hg, rfl⟩
              | ok x47 ts46 dq =>
                have hdq : dp = dq := by have := Inc.expr hL _ _ _ _ _ hm; omega
                subst hdq
                rw [hm] at hq
                obtain ⟨x47k, x47t, x47l, x47c, x47s⟩ := x47
                obtain ⟨hps, v, rfl, hv⟩ := hq
                obtain ⟨a48, cap49, rfl, hrow⟩ := NodeV.open hv
                have Hccap49 := Lib.hid (NodeV.cap hv)
                have H44 := Lib.hid ((H38.out.call hg hps).row hrow H38.out.grown.size H38.out.lt)
                clear hv hrow
                have Hsp45 := Lib.hid (Hsp39.out.trans (bind_ok hm))
                clear hm hg hps Hc42 H38 Hsp39
                have H51 := Lib.hid (H44.out.alloc #[.int .i64 x47k, .string x47t, .int .i64 x47l, .int .i64 x47c, .slice a48 x47s.length cap49] 83)
                clear H44
                obtain ⟨W50, hW⟩ : ∃ X, X = w43.alloc (.cells #[.int .i64 x47k, .string x47t, .int .i64 x47l, .int .i64 x47c, .slice a48 x47s.length cap49] 83) := ⟨_, rfl⟩
                rw [← hW] at H51
                have HW53 := Lib.hid hW
                clear hW
                generalize hb : w43.heap.size = b52 at H51
                have Hb54 := Lib.hid hb
                clear hb
                go_wp2_with fail
                rw [← HW53.out, Hb54.out]
                clear HW53 Hb54
                have hne : (pEat en [59]) ts46 (dp) ≠ .out := fun h => Hr.out (Hsp45.out.trans (bind_out h))
                have Hc55 := Lib.hid (eat_any bp ⟨#[59]⟩ en ts46 (dp) W50 H51.out.ps hne)
                try unfold ptr at Hc55
                clear hne
                refine Hc55.out.mono ?_
                rintro e w56 ⟨hg, hq⟩
                cases hm : (pEat en [59]) ts46 (dp) with
                | out => exact absurd (Hsp45.out.trans (bind_out hm)) Hr.out
                | err ex el ec =>
                  rw [hm] at hq
                  obtain rfl := hq
                  have Hf : Hid (pStmt en L ts dp = .err ex el ec) := Lib.hid (Hsp45.out.trans (bind_err hm))
                  clear hm
                  refine ⟨rfl, ?_⟩
                  rw [Hf.out]
                  exact ⟨grownBy_trans H51.out.grown hg, rfl⟩
                | ok x60 ts59 dq =>
                  have hdq : dp = dq := by have := Inc.eat _ _ _ _ _ _ hm; omega
                  subst hdq
                  rw [hm] at hq
                  obtain ⟨hps, v, rfl, -⟩ := hq
                  have H57 := Lib.hid (H51.out.call hg hps)
                  have Hsp58 := Lib.hid (Hsp45.out.trans (bind_ok hm))
                  clear hm hg hps Hc55 H51 Hsp45
                  obtain ⟨r61, r62, r63, r64, r65⟩ := four_facts (H57.out.at (b := b6) (cs := #[.int .i64 t.kind, .string t.text, .int .i64 t.line, .int .i64 t.col]) (T := 157) (by simp))
                  obtain ⟨r66, r67, r68, r69, r70⟩ := four_facts (H57.out.at (b := b33) (cs := #[.int .i64 x30.kind, .string x30.text, .int .i64 x30.line, .int .i64 x30.col]) (T := 157) (by simp))
                  obtain ⟨r71, r72, r73, r74, r75, r76, r77, r78, r79, r80, r81⟩ := five_facts (H57.out.at (b := b52) (cs := #[.int .i64 x47k, .string x47t, .int .i64 x47l, .int .i64 x47c, .slice a48 x47s.length cap49]) (T := 83) (by simp))
                  go_wp2_with fail
                  clear r61 r62 r63 r64 r65 r66 r67 r68 r69 r70 r71 r72 r73 r74 r75 r76 r77 r78 r79 r80 r81
                  have H82 := Lib.hid (H57.out.lit 83 [[.int .i64 x47k, .string x47t, .int .i64 x47l, .int .i64 x47c, .slice a48 x47s.length cap49]] [.mk x47k x47t x47l x47c x47s] rfl (by simp) rfl (fun j n c hj hc => by
                    have hjl := (List.getElem?_eq_some_iff.1 hc).1
                    simp only [List.length_cons, List.length_nil] at hjl
                    obtain rfl : j = 0 := by omega
                    · simp at hj hc
                      subst hj hc
                      exact ⟨_, _, _, _, _, _, _, rfl, rfl, .inl (by simp)⟩))
                  clear H57
                  have Hnd := Lib.hid (node_any 2 t x30.text (some ⟨w56.heap.size, 0, none⟩) 1 1 (w56.alloc (.cells #[.int .i64 x47k, .string x47t, .int .i64 x47l, .int .i64 x47c, .slice a48 x47s.length cap49] 83)))
                  unfold tokV nodeC at Hnd
                  refine Hnd.out.mono ?_
                  rintro e w83 ⟨rfl, hb⟩
                  have H84 := Lib.hid (H82.out.below hb)
                  clear hb Hnd H82
                  obtain ⟨r85, r86, r87, r88, r89, r90, r91, r92, r93, r94, r95⟩ := five_facts (H84.out.at (b := w.heap.size) (cs := #[.int .i64 0, .string ⟨#[]⟩, .int .i64 0, .int .i64 0, .slice none 0 0]) (T := 83) (by simp))
                  go_wp2_with fail
                  refine bodyPost_ret (v := .agg #[.int .i64 2, .string x30.text, .int .i64 t.line, .int .i64 t.col, .slice (some ⟨w56.heap.size, 0, none⟩) 1 1]) (by simp [results, Tryz.results129, go_sem, r86, r87, r88, r89, r90]) rfl ?_
                  have G := Lib.hid (H84.out.put5 3 rfl (.int .i64 2) (.string x30.text) (.int .i64 t.line) (.int .i64 t.col) (.slice (some ⟨w56.heap.size, 0, none⟩) 1 1))
                  rw [Hsp58.out]
                  exact ⟨G.out.grown, G.out.ps, _, rfl, NodeV.mk _ _ _ _ _ (G.out.hand (by simp))⟩
        · try rw [h4]
          clear h4
          have Hc96 := Lib.hid (sign_any bp 1 ⟨#[40]⟩ en ts (dp) w19 (by omega) H20.out.ps)
          try unfold ptr at Hc96
          go_wp2_with fail
          refine Hc96.out.mono ?_
          rintro e w97 ⟨rfl, hb⟩
          have H98 := Lib.hid (H20.out.below hb)
          clear hb Hc96 H20
          cases h5 : isSign en ts 1 [40]
          case' true => have E5 := Lib.hid h5
          case' false => have E5 := Lib.hid h5
          · try rw [h5]
            clear h5
            have Hsp99 : Hid (pStmt en L ts dp = PM.bind (pTake en (isNameT en ts)) (fun name => PM.bind (pEat en [61]) fun _ => PM.bind (pExpr en L) fun x => PM.bind (pEat en [59]) fun _ => PM.pure (nodeT 2 t name.text [x])) ts dp) := Lib.hid (by rw [Hsp.out, E1.out, E2.out, E3.out, E4.out, E5.out]; simp only [Bool.and_false, Bool.false_eq_true, if_false])
            clear Hsp E1 E2 E3 E4 E5
            have Hc100 := Lib.hid (name_any bp en ts (dp) w97 H98.out.ps)
            try unfold ptr at Hc100
            go_wp2_with fail
            refine Hc100.out.mono ?_
            rintro e w101 ⟨rfl, hb⟩
            have H102 := Lib.hid (H98.out.below hb)
            clear hb Hc100 H98
            have hne : (pTake en (isNameT en ts)) ts (dp) ≠ .out := fun h => Hr.out (Hsp99.out.trans (bind_out h))
            have Hc103 := Lib.hid (take_any bp (isNameT en ts) en ts (dp) w101 H102.out.ps hne)
            try unfold ptr at Hc103
            clear hne
            go_wp2_with fail
            refine Hc103.out.mono ?_
            rintro e w104 ⟨hg, hq⟩
            cases hm : (pTake en (isNameT en ts)) ts (dp) with
            | out => exact absurd (Hsp99.out.trans (bind_out hm)) Hr.out
            | err ex el ec =>
              rw [hm] at hq
              obtain rfl := hq
              have Hf : Hid (pStmt en L ts dp = .err ex el ec) := Lib.hid (Hsp99.out.trans (bind_err hm))
              clear hm
              refine ⟨rfl, ?_⟩
              rw [Hf.out]
              exact ⟨grownBy_trans H102.out.grown hg, rfl⟩
            | ok x108 ts107 dq =>
              have hdq : dp = dq := by have := Inc.take _ _ _ _ _ _ hm; omega
              subst hdq
              rw [hm] at hq
              obtain ⟨hps, v, rfl, rfl⟩ := hq
              have H105 := Lib.hid (H102.out.call hg hps)
              try unfold tokV
              have Hsp106 := Lib.hid (Hsp99.out.trans (bind_ok hm))
              clear hm hg hps Hc103 H102 Hsp99
              have H110 := Lib.hid (H105.out.alloc #[.int .i64 x108.kind, .string x108.text, .int .i64 x108.line, .int .i64 x108.col] 157)
              clear H105
              obtain ⟨W109, hW⟩ : ∃ X, X = w104.alloc (.cells #[.int .i64 x108.kind, .string x108.text, .int .i64 x108.line, .int .i64 x108.col] 157) := ⟨_, rfl⟩
              rw [← hW] at H110
              have HW112 := Lib.hid hW
              clear hW
              generalize hb : w104.heap.size = b111 at H110
              have Hb113 := Lib.hid hb
              clear hb
              go_wp2_with fail
              rw [← HW112.out, Hb113.out]
              clear HW112 Hb113
              have hne : (pEat en [61]) ts107 (dp) ≠ .out := fun h => Hr.out (Hsp106.out.trans (bind_out h))
              have Hc114 := Lib.hid (eat_any bp ⟨#[61]⟩ en ts107 (dp) W109 H110.out.ps hne)
              try unfold ptr at Hc114
              clear hne
              refine Hc114.out.mono ?_
              rintro e w115 ⟨hg, hq⟩
              cases hm : (pEat en [61]) ts107 (dp) with
              | out => exact absurd (Hsp106.out.trans (bind_out hm)) Hr.out
              | err ex el ec =>
                rw [hm] at hq
                obtain rfl := hq
                have Hf : Hid (pStmt en L ts dp = .err ex el ec) := Lib.hid (Hsp106.out.trans (bind_err hm))
                clear hm
                refine ⟨rfl, ?_⟩
                rw [Hf.out]
                exact ⟨grownBy_trans H110.out.grown hg, rfl⟩
              | ok x119 ts118 dq =>
                have hdq : dp = dq := by have := Inc.eat _ _ _ _ _ _ hm; omega
                subst hdq
                rw [hm] at hq
                obtain ⟨hps, v, rfl, -⟩ := hq
                have H116 := Lib.hid (H110.out.call hg hps)
                have Hsp117 := Lib.hid (Hsp106.out.trans (bind_ok hm))
                clear hm hg hps Hc114 H110 Hsp106
                have hne : (pExpr en L) ts118 (dp) ≠ .out := fun h => Hr.out (Hsp117.out.trans (bind_out h))
                have Hc120 := Lib.hid (Hx.out w115 ts118 (dp) H116.out.ps (by omega) (by omega) hne)
                try unfold ptr at Hc120
                clear hne
                go_wp2_with fail
                refine Hc120.out.mono ?_
                rintro e w121 ⟨hg, hq⟩
                cases hm : (pExpr en L) ts118 (dp) with
                | out => exact absurd (Hsp117.out.trans (bind_out hm)) Hr.out
                | err ex el ec =>
                  rw [hm] at hq
                  obtain rfl := hq
                  have Hf : Hid (pStmt en L ts dp = .err ex el ec) := Lib.hid (Hsp117.out.trans (bind_err hm))
                  clear hm
                  refine ⟨rfl, ?_⟩
                  rw [Hf.out]
                  exact ⟨grownBy_trans H116.out.grown hg, rfl⟩
                | ok x125 ts124 dq =>
                  have hdq : dp = dq := by have := Inc.expr hL _ _ _ _ _ hm; omega
                  subst hdq
                  rw [hm] at hq
                  obtain ⟨x125k, x125t, x125l, x125c, x125s⟩ := x125
                  obtain ⟨hps, v, rfl, hv⟩ := hq
                  obtain ⟨a126, cap127, rfl, hrow⟩ := NodeV.open hv
                  have Hccap127 := Lib.hid (NodeV.cap hv)
                  have H122 := Lib.hid ((H116.out.call hg hps).row hrow H116.out.grown.size H116.out.lt)
                  clear hv hrow
                  have Hsp123 := Lib.hid (Hsp117.out.trans (bind_ok hm))
                  clear hm hg hps Hc120 H116 Hsp117
                  have H129 := Lib.hid (H122.out.alloc #[.int .i64 x125k, .string x125t, .int .i64 x125l, .int .i64 x125c, .slice a126 x125s.length cap127] 83)
                  clear H122
                  obtain ⟨W128, hW⟩ : ∃ X, X = w121.alloc (.cells #[.int .i64 x125k, .string x125t, .int .i64 x125l, .int .i64 x125c, .slice a126 x125s.length cap127] 83) := ⟨_, rfl⟩
                  rw [← hW] at H129
                  have HW131 := Lib.hid hW
                  clear hW
                  generalize hb : w121.heap.size = b130 at H129
                  have Hb132 := Lib.hid hb
                  clear hb
                  go_wp2_with fail
                  rw [← HW131.out, Hb132.out]
                  clear HW131 Hb132
                  have hne : (pEat en [59]) ts124 (dp) ≠ .out := fun h => Hr.out (Hsp123.out.trans (bind_out h))
                  have Hc133 := Lib.hid (eat_any bp ⟨#[59]⟩ en ts124 (dp) W128 H129.out.ps hne)
                  try unfold ptr at Hc133
                  clear hne
                  refine Hc133.out.mono ?_
                  rintro e w134 ⟨hg, hq⟩
                  cases hm : (pEat en [59]) ts124 (dp) with
                  | out => exact absurd (Hsp123.out.trans (bind_out hm)) Hr.out
                  | err ex el ec =>
                    rw [hm] at hq
                    obtain rfl := hq
                    have Hf : Hid (pStmt en L ts dp = .err ex el ec) := Lib.hid (Hsp123.out.trans (bind_err hm))
                    clear hm
                    refine ⟨rfl, ?_⟩
                    rw [Hf.out]
                    exact ⟨grownBy_trans H129.out.grown hg, rfl⟩
                  | ok x138 ts137 dq =>
                    have hdq : dp = dq := by have := Inc.eat _ _ _ _ _ _ hm; omega
                    subst hdq
                    rw [hm] at hq
                    obtain ⟨hps, v, rfl, -⟩ := hq
                    have H135 := Lib.hid (H129.out.call hg hps)
                    have Hsp136 := Lib.hid (Hsp123.out.trans (bind_ok hm))
                    clear hm hg hps Hc133 H129 Hsp123
                    obtain ⟨r139, r140, r141, r142, r143⟩ := four_facts (H135.out.at (b := b6) (cs := #[.int .i64 t.kind, .string t.text, .int .i64 t.line, .int .i64 t.col]) (T := 157) (by simp))
                    obtain ⟨r144, r145, r146, r147, r148⟩ := four_facts (H135.out.at (b := b111) (cs := #[.int .i64 x108.kind, .string x108.text, .int .i64 x108.line, .int .i64 x108.col]) (T := 157) (by simp))
                    obtain ⟨r149, r150, r151, r152, r153, r154, r155, r156, r157, r158, r159⟩ := five_facts (H135.out.at (b := b130) (cs := #[.int .i64 x125k, .string x125t, .int .i64 x125l, .int .i64 x125c, .slice a126 x125s.length cap127]) (T := 83) (by simp))
                    go_wp2_with fail
                    clear r139 r140 r141 r142 r143 r144 r145 r146 r147 r148 r149 r150 r151 r152 r153 r154 r155 r156 r157 r158 r159
                    have H160 := Lib.hid (H135.out.lit 83 [[.int .i64 x125k, .string x125t, .int .i64 x125l, .int .i64 x125c, .slice a126 x125s.length cap127]] [.mk x125k x125t x125l x125c x125s] rfl (by simp) rfl (fun j n c hj hc => by
                      have hjl := (List.getElem?_eq_some_iff.1 hc).1
                      simp only [List.length_cons, List.length_nil] at hjl
                      obtain rfl : j = 0 := by omega
                      · simp at hj hc
                        subst hj hc
                        exact ⟨_, _, _, _, _, _, _, rfl, rfl, .inl (by simp)⟩))
                    clear H135
                    have Hnd := Lib.hid (node_any 2 t x108.text (some ⟨w134.heap.size, 0, none⟩) 1 1 (w134.alloc (.cells #[.int .i64 x125k, .string x125t, .int .i64 x125l, .int .i64 x125c, .slice a126 x125s.length cap127] 83)))
                    unfold tokV nodeC at Hnd
                    refine Hnd.out.mono ?_
                    rintro e w161 ⟨rfl, hb⟩
                    have H162 := Lib.hid (H160.out.below hb)
                    clear hb Hnd H160
                    obtain ⟨r163, r164, r165, r166, r167, r168, r169, r170, r171, r172, r173⟩ := five_facts (H162.out.at (b := w.heap.size) (cs := #[.int .i64 0, .string ⟨#[]⟩, .int .i64 0, .int .i64 0, .slice none 0 0]) (T := 83) (by simp))
                    go_wp2_with fail
                    refine bodyPost_ret (v := .agg #[.int .i64 2, .string x108.text, .int .i64 t.line, .int .i64 t.col, .slice (some ⟨w134.heap.size, 0, none⟩) 1 1]) (by simp [results, Tryz.results129, go_sem, r164, r165, r166, r167, r168]) rfl ?_
                    have G := Lib.hid (H162.out.put5 3 rfl (.int .i64 2) (.string x108.text) (.int .i64 t.line) (.int .i64 t.col) (.slice (some ⟨w134.heap.size, 0, none⟩) 1 1))
                    rw [Hsp136.out]
                    exact ⟨G.out.grown, G.out.ps, _, rfl, NodeV.mk _ _ _ _ _ (G.out.hand (by simp))⟩
          · try rw [h5]
            clear h5
            have Hsp174 : Hid (pStmt en L ts dp = PM.bind (pCall en L) (fun c => PM.bind (pEat en [59]) fun _ => PM.pure (nodeT 3 t ⟨#[]⟩ [c])) ts dp) := Lib.hid (by rw [Hsp.out, E1.out, E2.out, E3.out, E4.out, E5.out] <;> rfl)
            clear Hsp E1 E2 E3 E4 E5
            have hne : (pCall en L) ts (dp) ≠ .out := fun h => Hr.out (Hsp174.out.trans (bind_out h))
            have Hc175 := Lib.hid (Hc.out w97 ts (dp) H98.out.ps (by omega) (by omega) hne)
            try unfold ptr at Hc175
            clear hne
            go_wp2_with fail
            refine Hc175.out.mono ?_
            rintro e w176 ⟨hg, hq⟩
            cases hm : (pCall en L) ts (dp) with
            | out => exact absurd (Hsp174.out.trans (bind_out hm)) Hr.out
            | err ex el ec =>
              rw [hm] at hq
              obtain rfl := hq
              have Hf : Hid (pStmt en L ts dp = .err ex el ec) := Lib.hid (Hsp174.out.trans (bind_err hm))
              clear hm
              refine ⟨rfl, ?_⟩
              rw [Hf.out]
              exact ⟨grownBy_trans H98.out.grown hg, rfl⟩
            | ok x180 ts179 dq =>
              have hdq : dp = dq := by have := Inc.call hL _ _ _ _ _ hm; omega
              subst hdq
              rw [hm] at hq
              obtain ⟨x180k, x180t, x180l, x180c, x180s⟩ := x180
              obtain ⟨hps, v, rfl, hv⟩ := hq
              obtain ⟨a181, cap182, rfl, hrow⟩ := NodeV.open hv
              have Hccap182 := Lib.hid (NodeV.cap hv)
              have H177 := Lib.hid ((H98.out.call hg hps).row hrow H98.out.grown.size H98.out.lt)
              clear hv hrow
              have Hsp178 := Lib.hid (Hsp174.out.trans (bind_ok hm))
              clear hm hg hps Hc175 H98 Hsp174
              have H184 := Lib.hid (H177.out.alloc #[.int .i64 x180k, .string x180t, .int .i64 x180l, .int .i64 x180c, .slice a181 x180s.length cap182] 83)
              clear H177
              obtain ⟨W183, hW⟩ : ∃ X, X = w176.alloc (.cells #[.int .i64 x180k, .string x180t, .int .i64 x180l, .int .i64 x180c, .slice a181 x180s.length cap182] 83) := ⟨_, rfl⟩
              rw [← hW] at H184
              have HW186 := Lib.hid hW
              clear hW
              generalize hb : w176.heap.size = b185 at H184
              have Hb187 := Lib.hid hb
              clear hb
              go_wp2_with fail
              rw [← HW186.out, Hb187.out]
              clear HW186 Hb187
              have hne : (pEat en [59]) ts179 (dp) ≠ .out := fun h => Hr.out (Hsp178.out.trans (bind_out h))
              have Hc188 := Lib.hid (eat_any bp ⟨#[59]⟩ en ts179 (dp) W183 H184.out.ps hne)
              try unfold ptr at Hc188
              clear hne
              refine Hc188.out.mono ?_
              rintro e w189 ⟨hg, hq⟩
              cases hm : (pEat en [59]) ts179 (dp) with
              | out => exact absurd (Hsp178.out.trans (bind_out hm)) Hr.out
              | err ex el ec =>
                rw [hm] at hq
                obtain rfl := hq
                have Hf : Hid (pStmt en L ts dp = .err ex el ec) := Lib.hid (Hsp178.out.trans (bind_err hm))
                clear hm
                refine ⟨rfl, ?_⟩
                rw [Hf.out]
                exact ⟨grownBy_trans H184.out.grown hg, rfl⟩
              | ok x193 ts192 dq =>
                have hdq : dp = dq := by have := Inc.eat _ _ _ _ _ _ hm; omega
                subst hdq
                rw [hm] at hq
                obtain ⟨hps, v, rfl, -⟩ := hq
                have H190 := Lib.hid (H184.out.call hg hps)
                have Hsp191 := Lib.hid (Hsp178.out.trans (bind_ok hm))
                clear hm hg hps Hc188 H184 Hsp178
                obtain ⟨r194, r195, r196, r197, r198⟩ := four_facts (H190.out.at (b := b6) (cs := #[.int .i64 t.kind, .string t.text, .int .i64 t.line, .int .i64 t.col]) (T := 157) (by simp))
                obtain ⟨r199, r200, r201, r202, r203, r204, r205, r206, r207, r208, r209⟩ := five_facts (H190.out.at (b := b185) (cs := #[.int .i64 x180k, .string x180t, .int .i64 x180l, .int .i64 x180c, .slice a181 x180s.length cap182]) (T := 83) (by simp))
                go_wp2_with fail
                clear r194 r195 r196 r197 r198 r199 r200 r201 r202 r203 r204 r205 r206 r207 r208 r209
                have H210 := Lib.hid (H190.out.lit 83 [[.int .i64 x180k, .string x180t, .int .i64 x180l, .int .i64 x180c, .slice a181 x180s.length cap182]] [.mk x180k x180t x180l x180c x180s] rfl (by simp) rfl (fun j n c hj hc => by
                  have hjl := (List.getElem?_eq_some_iff.1 hc).1
                  simp only [List.length_cons, List.length_nil] at hjl
                  obtain rfl : j = 0 := by omega
                  · simp at hj hc
                    subst hj hc
                    exact ⟨_, _, _, _, _, _, _, rfl, rfl, .inl (by simp)⟩))
                clear H190
                have Hnd := Lib.hid (node_any 3 t ⟨#[]⟩ (some ⟨w189.heap.size, 0, none⟩) 1 1 (w189.alloc (.cells #[.int .i64 x180k, .string x180t, .int .i64 x180l, .int .i64 x180c, .slice a181 x180s.length cap182] 83)))
                unfold tokV nodeC at Hnd
                refine Hnd.out.mono ?_
                rintro e w211 ⟨rfl, hb⟩
                have H212 := Lib.hid (H210.out.below hb)
                clear hb Hnd H210
                obtain ⟨r213, r214, r215, r216, r217, r218, r219, r220, r221, r222, r223⟩ := five_facts (H212.out.at (b := w.heap.size) (cs := #[.int .i64 0, .string ⟨#[]⟩, .int .i64 0, .int .i64 0, .slice none 0 0]) (T := 83) (by simp))
                go_wp2_with fail
                refine bodyPost_ret (v := .agg #[.int .i64 3, .string ⟨#[]⟩, .int .i64 t.line, .int .i64 t.col, .slice (some ⟨w189.heap.size, 0, none⟩) 1 1]) (by simp [results, Tryz.results129, go_sem, r214, r215, r216, r217, r218]) rfl ?_
                have G := Lib.hid (H212.out.put5 2 rfl (.int .i64 3) (.string ⟨#[]⟩) (.int .i64 t.line) (.int .i64 t.col) (.slice (some ⟨w189.heap.size, 0, none⟩) 1 1))
                rw [Hsp191.out]
                exact ⟨G.out.grown, G.out.ps, _, rfl, NodeV.mk _ _ _ _ _ (G.out.hand (by simp))⟩
      · try rw [h3]
        clear h3
        have Hsp224 : Hid (pStmt en L ts dp = PM.bind (pRule en L) (fun x => PM.pure x) ts dp) := Lib.hid ((by rw [Hsp.out, E1.out, E2.out, E3.out] <;> rfl : pStmt en L ts dp = pRule en L ts dp).trans (bind_pure _ _ _))
        clear Hsp E1 E2 E3
        have hne : (pRule en L) ts (dp) ≠ .out := fun h => Hr.out (Hsp224.out.trans (bind_out h))
        have Hc225 := Lib.hid (Hr0.out w16 ts (dp) H17.out.ps (by omega) (by omega) hne)
        try unfold ptr at Hc225
        clear hne
        go_wp2_with fail
        refine Hc225.out.mono ?_
        rintro e w226 ⟨hg, hq⟩
        cases hm : (pRule en L) ts (dp) with
        | out => exact absurd (Hsp224.out.trans (bind_out hm)) Hr.out
        | err ex el ec =>
          rw [hm] at hq
          obtain rfl := hq
          have Hf : Hid (pStmt en L ts dp = .err ex el ec) := Lib.hid (Hsp224.out.trans (bind_err hm))
          clear hm
          refine ⟨rfl, ?_⟩
          rw [Hf.out]
          exact ⟨grownBy_trans H17.out.grown hg, rfl⟩
        | ok x230 ts229 dq =>
          have hdq : dp = dq := by have := Inc.rule hL _ _ _ _ _ hm; omega
          subst hdq
          rw [hm] at hq
          obtain ⟨x230k, x230t, x230l, x230c, x230s⟩ := x230
          obtain ⟨hps, v, rfl, hv⟩ := hq
          obtain ⟨a231, cap232, rfl, hrow⟩ := NodeV.open hv
          have Hccap232 := Lib.hid (NodeV.cap hv)
          have H227 := Lib.hid ((H17.out.call hg hps).row hrow H17.out.grown.size H17.out.lt)
          clear hv hrow
          have Hsp228 := Lib.hid (Hsp224.out.trans (bind_ok hm))
          clear hm hg hps Hc225 H17 Hsp224
          obtain ⟨r233, r234, r235, r236, r237, r238, r239, r240, r241, r242, r243⟩ := five_facts (H227.out.at (b := w.heap.size) (cs := #[.int .i64 0, .string ⟨#[]⟩, .int .i64 0, .int .i64 0, .slice none 0 0]) (T := 83) (by simp))
          go_wp2_with fail
          refine bodyPost_ret (v := .agg #[.int .i64 x230k, .string x230t, .int .i64 x230l, .int .i64 x230c, .slice a231 x230s.length cap232]) (by simp [results, Tryz.results129, go_sem, r234, r235, r236, r237, r238]) rfl ?_
          have G := Lib.hid (H227.out.put5 1 rfl (.int .i64 x230k) (.string x230t) (.int .i64 x230l) (.int .i64 x230c) (.slice a231 x230s.length cap232))
          rw [Hsp228.out]
          exact ⟨G.out.grown, G.out.ps, _, rfl, NodeV.mk _ _ _ _ _ (G.out.hand (by simp))⟩
    · try rw [h2]
      clear h2
      have Hsp244 : Hid (pStmt en L ts dp = PM.bind (pTake en true) (fun _ => PM.bind (pExpr en L) fun x => PM.bind (pBlock en L) fun b => pLook fun us => (if isWordT en us [101, 108, 115, 101] then PM.bind (pTake en true) fun _ => PM.bind (pBlock en L) fun c => PM.pure (nodeT 5 t ⟨#[]⟩ [x, b, c]) else PM.pure (nodeT 5 t ⟨#[]⟩ [x, b]))) ts dp) := Lib.hid (by rw [Hsp.out, E1.out, E2.out] <;> rfl)
      clear Hsp E1 E2
      have hne : (pTake en true) ts (dp) ≠ .out := fun h => Hr.out (Hsp244.out.trans (bind_out h))
      have Hc245 := Lib.hid (take_any bp true en ts (dp) w13 H14.out.ps hne)
      try unfold ptr at Hc245
      clear hne
      go_wp2_with fail
      refine Hc245.out.mono ?_
      rintro e w246 ⟨hg, hq⟩
      cases hm : (pTake en true) ts (dp) with
      | out => exact absurd (Hsp244.out.trans (bind_out hm)) Hr.out
      | err ex el ec =>
        rw [hm] at hq
        obtain rfl := hq
        have Hf : Hid (pStmt en L ts dp = .err ex el ec) := Lib.hid (Hsp244.out.trans (bind_err hm))
        clear hm
        refine ⟨rfl, ?_⟩
        rw [Hf.out]
        exact ⟨grownBy_trans H14.out.grown hg, rfl⟩
      | ok x250 ts249 dq =>
        have hdq : dp = dq := by have := Inc.take _ _ _ _ _ _ hm; omega
        subst hdq
        rw [hm] at hq
        obtain ⟨hps, v, rfl, -⟩ := hq
        have H247 := Lib.hid (H14.out.call hg hps)
        have Hsp248 := Lib.hid (Hsp244.out.trans (bind_ok hm))
        clear hm hg hps Hc245 H14 Hsp244
        have hne : (pExpr en L) ts249 (dp) ≠ .out := fun h => Hr.out (Hsp248.out.trans (bind_out h))
        have Hc251 := Lib.hid (Hx.out w246 ts249 (dp) H247.out.ps (by omega) (by omega) hne)
        try unfold ptr at Hc251
        clear hne
        go_wp2_with fail
        refine Hc251.out.mono ?_
        rintro e w252 ⟨hg, hq⟩
        cases hm : (pExpr en L) ts249 (dp) with
        | out => exact absurd (Hsp248.out.trans (bind_out hm)) Hr.out
        | err ex el ec =>
          rw [hm] at hq
          obtain rfl := hq
          have Hf : Hid (pStmt en L ts dp = .err ex el ec) := Lib.hid (Hsp248.out.trans (bind_err hm))
          clear hm
          refine ⟨rfl, ?_⟩
          rw [Hf.out]
          exact ⟨grownBy_trans H247.out.grown hg, rfl⟩
        | ok x256 ts255 dq =>
          have hdq : dp = dq := by have := Inc.expr hL _ _ _ _ _ hm; omega
          subst hdq
          rw [hm] at hq
          obtain ⟨x256k, x256t, x256l, x256c, x256s⟩ := x256
          obtain ⟨hps, v, rfl, hv⟩ := hq
          obtain ⟨a257, cap258, rfl, hrow⟩ := NodeV.open hv
          have Hccap258 := Lib.hid (NodeV.cap hv)
          have H253 := Lib.hid ((H247.out.call hg hps).row hrow H247.out.grown.size H247.out.lt)
          clear hv hrow
          have Hsp254 := Lib.hid (Hsp248.out.trans (bind_ok hm))
          clear hm hg hps Hc251 H247 Hsp248
          obtain ⟨i0, hi, hz0, hz1, hz2⟩ := info_parts infoNode
          go_wp2_with fail
          have H259 := Lib.hid (PO.ofLit H253.out (cs := #[.int .i64 x256k, .string x256t, .int .i64 x256l, .int .i64 x256c, .slice a257 x256s.length cap258]) [[.int .i64 x256k, .string x256t, .int .i64 x256l, .int .i64 x256c, .slice a257 x256s.length cap258]] [.mk x256k x256t x256l x256c x256s] rfl (by simp) rfl rfl (by simp) (fun j n c hj hc => by
            have hjl := (List.getElem?_eq_some_iff.1 hc).1
            simp only [List.length_cons, List.length_nil] at hjl
            obtain rfl : j = 0 := by omega
            · simp at hj hc
              subst hj hc
              exact ⟨_, _, _, _, _, _, _, rfl, rfl, .inl (by simp)⟩))
          clear H253
          have hne : (pBlock en L) ts255 (dp) ≠ .out := fun h => Hr.out (Hsp254.out.trans (bind_out h))
          have Hc260 := Lib.hid (Hb0.out (w252.alloc (.cells #[.int .i64 x256k, .string x256t, .int .i64 x256l, .int .i64 x256c, .slice a257 x256s.length cap258] 83)) ts255 (dp) H259.out.ps (by omega) (by omega) hne)
          try unfold ptr at Hc260
          clear hne
          refine Hc260.out.mono ?_
          rintro e w261 ⟨hg, hq⟩
          cases hm : (pBlock en L) ts255 (dp) with
          | out => exact absurd (Hsp254.out.trans (bind_out hm)) Hr.out
          | err ex el ec =>
            rw [hm] at hq
            obtain rfl := hq
            have Hf : Hid (pStmt en L ts dp = .err ex el ec) := Lib.hid (Hsp254.out.trans (bind_err hm))
            clear hm
            refine ⟨rfl, ?_⟩
            rw [Hf.out]
            exact ⟨grownBy_trans H259.out.grown hg, rfl⟩
          | ok x265 ts264 dq =>
            have hdq : dp = dq := by have := Inc.block hL _ _ _ _ _ hm; omega
            subst hdq
            rw [hm] at hq
            obtain ⟨x265k, x265t, x265l, x265c, x265s⟩ := x265
            obtain ⟨hps, v, rfl, hv⟩ := hq
            obtain ⟨a266, cap267, rfl, hrow⟩ := NodeV.open hv
            have Hccap267 := Lib.hid (NodeV.cap hv)
            have H262 := Lib.hid ((H259.out.call hg hps).row hrow H259.out.grown.size H259.out.lt)
            clear hv hrow
            have Hsp263 := Lib.hid (Hsp254.out.trans (bind_ok hm))
            clear hm hg hps Hc260 H259 Hsp254
            have H268 := Lib.hid (H262.out.lit 83 [[.int .i64 x265k, .string x265t, .int .i64 x265l, .int .i64 x265c, .slice a266 x265s.length cap267]] [.mk x265k x265t x265l x265c x265s] rfl (by simp) rfl (fun j n c hj hc => by
              have hjl := (List.getElem?_eq_some_iff.1 hc).1
              simp only [List.length_cons, List.length_nil] at hjl
              obtain rfl : j = 0 := by omega
              · simp at hj hc
                subst hj hc
                exact ⟨_, _, _, _, _, _, _, rfl, rfl, .inl (by simp)⟩))
            clear H262
            go_wp2_with (at_builtin; refine wpList_append_row rfl _ _ 23 rfl w.heap.size 83 i0 _ 5 64 Tryz.underlying23 hi hz0 hz1 hz2 rfl (by decide) (.slice (some ⟨w252.heap.size, 0, none⟩) 1 1) (PF w [(b6, #[.int .i64 t.kind, .string t.text, .int .i64 t.line, .int .i64 t.col], 157), (w.heap.size, #[.int .i64 0, .string ⟨#[]⟩, .int .i64 0, .int .i64 0, .slice none 0 0], 83)]) (nodesD (([.mk x256k x256t x256l x256c x256s] : List Nd))) rfl H268.out.od w261.heap.size 0 1 (nodesD [.mk x265k x265t x265l x265c x265s]) ?_ (H268.out.rd ((some ⟨w261.heap.size, 0, none⟩), [.mk x265k x265t x265l x265c x265s]) (by simp)) (nodesD_all nodeD_len _) (nodesD_all nodeD_plain _) ?_ ?_ ?_ ?_)
            · rw [nodesD_len]; rfl
            · rw [nodesD_len, nodesD_len]; unfold maxLen; simp only [List.length_cons, List.length_nil]; omega
            · rw [nodesD_len, nodesD_len]; simp only [List.length_cons, List.length_nil]; omega
            · exact H268.out.grown.size
            intro v269 w270 hown4 hgrow4 hor4
            have H271 := Lib.hid (H268.out.grew hown4 hgrow4 (fun g hg => (hor4 g hg).imp id (fun h => by simpa using h)))
            clear hown4 hgrow4 hor4 H268
            have Hsp272 : Hid (pStmt en L ts dp = (if isWordT en ts264 [101, 108, 115, 101] then PM.bind (pTake en true) fun _ => PM.bind (pBlock en L) fun c => PM.pure (nodeT 5 t ⟨#[]⟩ [.mk x256k x256t x256l x256c x256s, .mk x265k x265t x265l x265c x265s, c]) else PM.pure (nodeT 5 t ⟨#[]⟩ [.mk x256k x256t x256l x256c x256s, .mk x265k x265t x265l x265c x265s])) ts264 dp) := Lib.hid (by rw [Hsp263.out] <;> rfl)
            clear Hsp263
            have Hc273 := Lib.hid (word_any bp ⟨#[101, 108, 115, 101]⟩ en ts264 (dp) w270 H271.out.ps)
            try unfold ptr at Hc273
            go_wp2_with fail
            refine Hc273.out.mono ?_
            rintro e w274 ⟨rfl, hb⟩
            have H275 := Lib.hid (H271.out.below hb)
            clear hb Hc273 H271
            cases h6 : isWordT en ts264 [101, 108, 115, 101]
            case' true => have E6 := Lib.hid h6
            case' false => have E6 := Lib.hid h6
            · try rw [h6]
              clear h6
              have Hsp276 : Hid (pStmt en L ts dp = PM.pure (nodeT 5 t ⟨#[]⟩ [.mk x256k x256t x256l x256c x256s, .mk x265k x265t x265l x265c x265s]) ts264 dp) := Lib.hid (by rw [Hsp272.out, E6.out] <;> rfl)
              clear Hsp272 E6
              obtain ⟨r277, r278, r279, r280, r281⟩ := four_facts (H275.out.at (b := b6) (cs := #[.int .i64 t.kind, .string t.text, .int .i64 t.line, .int .i64 t.col]) (T := 157) (by simp))
              go_wp2_with fail
              clear r277 r278 r279 r280 r281
              obtain ⟨a282, cap283, hv5⟩ := H275.out.slice
              subst hv5
              have H284 := Lib.hid H275.out.toRow
              clear H275
              have Hnd := Lib.hid (node_any 5 t ⟨#[]⟩ a282 (([.mk x256k x256t x256l x256c x256s] : List Nd) ++ ([.mk x265k x265t x265l x265c x265s] : List Nd)).length cap283 w274)
              unfold tokV nodeC at Hnd
              refine Hnd.out.mono ?_
              rintro e w285 ⟨rfl, hb⟩
              have H286 := Lib.hid (H284.out.below hb)
              clear hb Hnd H284
              obtain ⟨r287, r288, r289, r290, r291, r292, r293, r294, r295, r296, r297⟩ := five_facts (H286.out.at (b := w.heap.size) (cs := #[.int .i64 0, .string ⟨#[]⟩, .int .i64 0, .int .i64 0, .slice none 0 0]) (T := 83) (by simp))
              go_wp2_with fail
              refine bodyPost_ret (v := .agg #[.int .i64 5, .string ⟨#[]⟩, .int .i64 t.line, .int .i64 t.col, .slice a282 (([.mk x256k x256t x256l x256c x256s] : List Nd) ++ ([.mk x265k x265t x265l x265c x265s] : List Nd)).length cap283]) (by simp [results, Tryz.results129, go_sem, r288, r289, r290, r291, r292]) rfl ?_
              have G := Lib.hid (H286.out.put5 1 rfl (.int .i64 5) (.string ⟨#[]⟩) (.int .i64 t.line) (.int .i64 t.col) (.slice a282 (([.mk x256k x256t x256l x256c x256s] : List Nd) ++ ([.mk x265k x265t x265l x265c x265s] : List Nd)).length cap283))
              rw [Hsp276.out]
              exact ⟨G.out.grown, G.out.ps, _, rfl, NodeV.mk _ _ _ _ _ (G.out.hand (by simp))⟩
            · try rw [h6]
              clear h6
              have Hsp298 : Hid (pStmt en L ts dp = PM.bind (pTake en true) (fun _ => PM.bind (pBlock en L) fun c => PM.pure (nodeT 5 t ⟨#[]⟩ [.mk x256k x256t x256l x256c x256s, .mk x265k x265t x265l x265c x265s, c])) ts264 dp) := Lib.hid (by rw [Hsp272.out, E6.out] <;> rfl)
              clear Hsp272 E6
              have hne : (pTake en true) ts264 (dp) ≠ .out := fun h => Hr.out (Hsp298.out.trans (bind_out h))
              have Hc299 := Lib.hid (take_any bp true en ts264 (dp) w274 H275.out.ps hne)
              try unfold ptr at Hc299
              clear hne
              go_wp2_with fail
              refine Hc299.out.mono ?_
              rintro e w300 ⟨hg, hq⟩
              cases hm : (pTake en true) ts264 (dp) with
              | out => exact absurd (Hsp298.out.trans (bind_out hm)) Hr.out
              | err ex el ec =>
                rw [hm] at hq
                obtain rfl := hq
                have Hf : Hid (pStmt en L ts dp = .err ex el ec) := Lib.hid (Hsp298.out.trans (bind_err hm))
                clear hm
                refine ⟨rfl, ?_⟩
                rw [Hf.out]
                exact ⟨grownBy_trans H275.out.grown hg, rfl⟩
              | ok x304 ts303 dq =>
                have hdq : dp = dq := by have := Inc.take _ _ _ _ _ _ hm; omega
                subst hdq
                rw [hm] at hq
                obtain ⟨hps, v, rfl, -⟩ := hq
                have H301 := Lib.hid (H275.out.call hg hps)
                have Hsp302 := Lib.hid (Hsp298.out.trans (bind_ok hm))
                clear hm hg hps Hc299 H275 Hsp298
                have hne : (pBlock en L) ts303 (dp) ≠ .out := fun h => Hr.out (Hsp302.out.trans (bind_out h))
                have Hc305 := Lib.hid (Hb0.out w300 ts303 (dp) H301.out.ps (by omega) (by omega) hne)
                try unfold ptr at Hc305
                clear hne
                go_wp2_with fail
                refine Hc305.out.mono ?_
                rintro e w306 ⟨hg, hq⟩
                cases hm : (pBlock en L) ts303 (dp) with
                | out => exact absurd (Hsp302.out.trans (bind_out hm)) Hr.out
                | err ex el ec =>
                  rw [hm] at hq
                  obtain rfl := hq
                  have Hf : Hid (pStmt en L ts dp = .err ex el ec) := Lib.hid (Hsp302.out.trans (bind_err hm))
                  clear hm
                  refine ⟨rfl, ?_⟩
                  rw [Hf.out]
                  exact ⟨grownBy_trans H301.out.grown hg, rfl⟩
                | ok x310 ts309 dq =>
                  have hdq : dp = dq := by have := Inc.block hL _ _ _ _ _ hm; omega
                  subst hdq
                  rw [hm] at hq
                  obtain ⟨x310k, x310t, x310l, x310c, x310s⟩ := x310
                  obtain ⟨hps, v, rfl, hv⟩ := hq
                  obtain ⟨a311, cap312, rfl, hrow⟩ := NodeV.open hv
                  have Hccap312 := Lib.hid (NodeV.cap hv)
                  have H307 := Lib.hid ((H301.out.call hg hps).row hrow H301.out.grown.size H301.out.lt)
                  clear hv hrow
                  have Hsp308 := Lib.hid (Hsp302.out.trans (bind_ok hm))
                  clear hm hg hps Hc305 H301 Hsp302
                  have H313 := Lib.hid (H307.out.lit 83 [[.int .i64 x310k, .string x310t, .int .i64 x310l, .int .i64 x310c, .slice a311 x310s.length cap312]] [.mk x310k x310t x310l x310c x310s] rfl (by simp) rfl (fun j n c hj hc => by
                    have hjl := (List.getElem?_eq_some_iff.1 hc).1
                    simp only [List.length_cons, List.length_nil] at hjl
                    obtain rfl : j = 0 := by omega
                    · simp at hj hc
                      subst hj hc
                      exact ⟨_, _, _, _, _, _, _, rfl, rfl, .inl (by simp)⟩))
                  clear H307
                  go_wp2_with (at_builtin; refine wpList_append_row rfl _ _ 23 rfl w.heap.size 83 i0 _ 5 64 Tryz.underlying23 hi hz0 hz1 hz2 rfl (by decide) v269 (PF w [(b6, #[.int .i64 t.kind, .string t.text, .int .i64 t.line, .int .i64 t.col], 157), (w.heap.size, #[.int .i64 0, .string ⟨#[]⟩, .int .i64 0, .int .i64 0, .slice none 0 0], 83)]) (nodesD (([.mk x256k x256t x256l x256c x256s] : List Nd) ++ ([.mk x265k x265t x265l x265c x265s] : List Nd))) rfl H313.out.od w306.heap.size 0 1 (nodesD [.mk x310k x310t x310l x310c x310s]) ?_ (H313.out.rd ((some ⟨w306.heap.size, 0, none⟩), [.mk x310k x310t x310l x310c x310s]) (by simp)) (nodesD_all nodeD_len _) (nodesD_all nodeD_plain _) ?_ ?_ ?_ ?_)
                  · rw [nodesD_len]; rfl
                  · rw [nodesD_len, nodesD_len]; unfold maxLen; simp only [List.length_append, List.length_cons, List.length_nil]; omega
                  · rw [nodesD_len, nodesD_len]; simp only [List.length_append, List.length_cons, List.length_nil]; omega
                  · exact H313.out.grown.size
                  intro v314 w315 hown4 hgrow4 hor4
                  have H316 := Lib.hid (H313.out.grew hown4 hgrow4 (fun g hg => (hor4 g hg).imp id (fun h => by simpa using h)))
                  clear hown4 hgrow4 hor4 H313
                  obtain ⟨r317, r318, r319, r320, r321⟩ := four_facts (H316.out.at (b := b6) (cs := #[.int .i64 t.kind, .string t.text, .int .i64 t.line, .int .i64 t.col]) (T := 157) (by simp))
                  go_wp2_with fail
                  clear r317 r318 r319 r320 r321
                  obtain ⟨a322, cap323, hv5⟩ := H316.out.slice
                  subst hv5
                  have H324 := Lib.hid H316.out.toRow
                  clear H316
                  have Hnd := Lib.hid (node_any 5 t ⟨#[]⟩ a322 (([.mk x256k x256t x256l x256c x256s] : List Nd) ++ ([.mk x265k x265t x265l x265c x265s] : List Nd) ++ ([.mk x310k x310t x310l x310c x310s] : List Nd)).length cap323 w315)
                  unfold tokV nodeC at Hnd
                  refine Hnd.out.mono ?_
                  rintro e w325 ⟨rfl, hb⟩
                  have H326 := Lib.hid (H324.out.below hb)
                  clear hb Hnd H324
                  obtain ⟨r327, r328, r329, r330, r331, r332, r333, r334, r335, r336, r337⟩ := five_facts (H326.out.at (b := w.heap.size) (cs := #[.int .i64 0, .string ⟨#[]⟩, .int .i64 0, .int .i64 0, .slice none 0 0]) (T := 83) (by simp))
                  go_wp2_with fail
                  refine bodyPost_ret (v := .agg #[.int .i64 5, .string ⟨#[]⟩, .int .i64 t.line, .int .i64 t.col, .slice a322 (([.mk x256k x256t x256l x256c x256s] : List Nd) ++ ([.mk x265k x265t x265l x265c x265s] : List Nd) ++ ([.mk x310k x310t x310l x310c x310s] : List Nd)).length cap323]) (by simp [results, Tryz.results129, go_sem, r328, r329, r330, r331, r332]) rfl ?_
                  have G := Lib.hid (H326.out.put5 1 rfl (.int .i64 5) (.string ⟨#[]⟩) (.int .i64 t.line) (.int .i64 t.col) (.slice a322 (([.mk x256k x256t x256l x256c x256s] : List Nd) ++ ([.mk x265k x265t x265l x265c x265s] : List Nd) ++ ([.mk x310k x310t x310l x310c x310s] : List Nd)).length cap323))
                  rw [Hsp308.out]
                  exact ⟨G.out.grown, G.out.ps, _, rfl, NodeV.mk _ _ _ _ _ (G.out.hand (by simp))⟩
  · try rw [h1]
    clear h1
    have Hsp338 : Hid (pStmt en L ts dp = PM.bind (pTake en true) (fun _ => pLook fun us => PM.bind (pTake en (isNameT en us)) (fun name => pLook fun us => PM.bind (pTake en (isWordT en us [105, 110])) (fun _ => PM.bind (pExpr en L) (fun x => PM.bind (pBlock en L) fun b => PM.pure (nodeT 4 t name.text [x, b]))))) ts dp) := Lib.hid (by rw [Hsp.out, E1.out] <;> rfl)
    clear Hsp E1
    have hne : (pTake en true) ts (dp) ≠ .out := fun h => Hr.out (Hsp338.out.trans (bind_out h))
    have Hc339 := Lib.hid (take_any bp true en ts (dp) w10 H11.out.ps hne)
    try unfold ptr at Hc339
    clear hne
    go_wp2_with fail
    refine Hc339.out.mono ?_
    rintro e w340 ⟨hg, hq⟩
    cases hm : (pTake en true) ts (dp) with
    | out => exact absurd (Hsp338.out.trans (bind_out hm)) Hr.out
    | err ex el ec =>
      rw [hm] at hq
      obtain rfl := hq
      have Hf : Hid (pStmt en L ts dp = .err ex el ec) := Lib.hid (Hsp338.out.trans (bind_err hm))
      clear hm
      refine ⟨rfl, ?_⟩
      rw [Hf.out]
      exact ⟨grownBy_trans H11.out.grown hg, rfl⟩
    | ok x344 ts343 dq =>
      have hdq : dp = dq := by have := Inc.take _ _ _ _ _ _ hm; omega
      subst hdq
      rw [hm] at hq
      obtain ⟨hps, v, rfl, -⟩ := hq
      have H341 := Lib.hid (H11.out.call hg hps)
      have Hsp342 := Lib.hid (Hsp338.out.trans (bind_ok hm))
      clear hm hg hps Hc339 H11 Hsp338
      have Hsp345 : Hid (pStmt en L ts dp = PM.bind (pTake en (isNameT en ts343)) (fun name => pLook fun us => PM.bind (pTake en (isWordT en us [105, 110])) (fun _ => PM.bind (pExpr en L) (fun x => PM.bind (pBlock en L) fun b => PM.pure (nodeT 4 t name.text [x, b])))) ts343 dp) := Lib.hid (by rw [Hsp342.out] <;> rfl)
      clear Hsp342
      have Hc346 := Lib.hid (name_any bp en ts343 (dp) w340 H341.out.ps)
      try unfold ptr at Hc346
      go_wp2_with fail
      refine Hc346.out.mono ?_
      rintro e w347 ⟨rfl, hb⟩
      have H348 := Lib.hid (H341.out.below hb)
      clear hb Hc346 H341
      have hne : (pTake en (isNameT en ts343)) ts343 (dp) ≠ .out := fun h => Hr.out (Hsp345.out.trans (bind_out h))
      have Hc349 := Lib.hid (take_any bp (isNameT en ts343) en ts343 (dp) w347 H348.out.ps hne)
      try unfold ptr at Hc349
      clear hne
      go_wp2_with fail
      refine Hc349.out.mono ?_
      rintro e w350 ⟨hg, hq⟩
      cases hm : (pTake en (isNameT en ts343)) ts343 (dp) with
      | out => exact absurd (Hsp345.out.trans (bind_out hm)) Hr.out
      | err ex el ec =>
        rw [hm] at hq
        obtain rfl := hq
        have Hf : Hid (pStmt en L ts dp = .err ex el ec) := Lib.hid (Hsp345.out.trans (bind_err hm))
        clear hm
        refine ⟨rfl, ?_⟩
        rw [Hf.out]
        exact ⟨grownBy_trans H348.out.grown hg, rfl⟩
      | ok x354 ts353 dq =>
        have hdq : dp = dq := by have := Inc.take _ _ _ _ _ _ hm; omega
        subst hdq
        rw [hm] at hq
        obtain ⟨hps, v, rfl, rfl⟩ := hq
        have H351 := Lib.hid (H348.out.call hg hps)
        try unfold tokV
        have Hsp352 := Lib.hid (Hsp345.out.trans (bind_ok hm))
        clear hm hg hps Hc349 H348 Hsp345
        have H356 := Lib.hid (H351.out.alloc #[.int .i64 x354.kind, .string x354.text, .int .i64 x354.line, .int .i64 x354.col] 157)
        clear H351
        obtain ⟨W355, hW⟩ : ∃ X, X = w350.alloc (.cells #[.int .i64 x354.kind, .string x354.text, .int .i64 x354.line, .int .i64 x354.col] 157) := ⟨_, rfl⟩
        rw [← hW] at H356
        have HW358 := Lib.hid hW
        clear hW
        generalize hb : w350.heap.size = b357 at H356
        have Hb359 := Lib.hid hb
        clear hb
        go_wp2_with fail
        rw [← HW358.out, Hb359.out]
        clear HW358 Hb359
        have Hsp360 : Hid (pStmt en L ts dp = PM.bind (pTake en (isWordT en ts353 [105, 110])) (fun _ => PM.bind (pExpr en L) (fun x => PM.bind (pBlock en L) fun b => PM.pure (nodeT 4 t x354.text [x, b]))) ts353 dp) := Lib.hid (by rw [Hsp352.out] <;> rfl)
        clear Hsp352
        have Hc361 := Lib.hid (word_any bp ⟨#[105, 110]⟩ en ts353 (dp) W355 H356.out.ps)
        try unfold ptr at Hc361
        refine Hc361.out.mono ?_
        rintro e w362 ⟨rfl, hb⟩
        have H363 := Lib.hid (H356.out.below hb)
        clear hb Hc361 H356
        have hne : (pTake en (isWordT en ts353 [105, 110])) ts353 (dp) ≠ .out := fun h => Hr.out (Hsp360.out.trans (bind_out h))
        have Hc364 := Lib.hid (take_any bp (isWordT en ts353 [105, 110]) en ts353 (dp) w362 H363.out.ps hne)
        try unfold ptr at Hc364
        clear hne
        go_wp2_with fail
        refine Hc364.out.mono ?_
        rintro e w365 ⟨hg, hq⟩
        cases hm : (pTake en (isWordT en ts353 [105, 110])) ts353 (dp) with
        | out => exact absurd (Hsp360.out.trans (bind_out hm)) Hr.out
        | err ex el ec =>
          rw [hm] at hq
          obtain rfl := hq
          have Hf : Hid (pStmt en L ts dp = .err ex el ec) := Lib.hid (Hsp360.out.trans (bind_err hm))
          clear hm
          refine ⟨rfl, ?_⟩
          rw [Hf.out]
          exact ⟨grownBy_trans H363.out.grown hg, rfl⟩
        | ok x369 ts368 dq =>
          have hdq : dp = dq := by have := Inc.take _ _ _ _ _ _ hm; omega
          subst hdq
          rw [hm] at hq
          obtain ⟨hps, v, rfl, rfl⟩ := hq
          have H366 := Lib.hid (H363.out.call hg hps)
          try unfold tokV
          have Hsp367 := Lib.hid (Hsp360.out.trans (bind_ok hm))
          clear hm hg hps Hc364 H363 Hsp360
          have hne : (pExpr en L) ts368 (dp) ≠ .out := fun h => Hr.out (Hsp367.out.trans (bind_out h))
          have Hc370 := Lib.hid (Hx.out w365 ts368 (dp) H366.out.ps (by omega) (by omega) hne)
          try unfold ptr at Hc370
          clear hne
          go_wp2_with fail
          refine Hc370.out.mono ?_
          rintro e w371 ⟨hg, hq⟩
          cases hm : (pExpr en L) ts368 (dp) with
          | out => exact absurd (Hsp367.out.trans (bind_out hm)) Hr.out
          | err ex el ec =>
            rw [hm] at hq
            obtain rfl := hq
            have Hf : Hid (pStmt en L ts dp = .err ex el ec) := Lib.hid (Hsp367.out.trans (bind_err hm))
            clear hm
            refine ⟨rfl, ?_⟩
            rw [Hf.out]
            exact ⟨grownBy_trans H366.out.grown hg, rfl⟩
          | ok x375 ts374 dq =>
            have hdq : dp = dq := by have := Inc.expr hL _ _ _ _ _ hm; omega
            subst hdq
            rw [hm] at hq
            obtain ⟨x375k, x375t, x375l, x375c, x375s⟩ := x375
            obtain ⟨hps, v, rfl, hv⟩ := hq
            obtain ⟨a376, cap377, rfl, hrow⟩ := NodeV.open hv
            have Hccap377 := Lib.hid (NodeV.cap hv)
            have H372 := Lib.hid ((H366.out.call hg hps).row hrow H366.out.grown.size H366.out.lt)
            clear hv hrow
            have Hsp373 := Lib.hid (Hsp367.out.trans (bind_ok hm))
            clear hm hg hps Hc370 H366 Hsp367
            have H379 := Lib.hid (H372.out.alloc #[.int .i64 x375k, .string x375t, .int .i64 x375l, .int .i64 x375c, .slice a376 x375s.length cap377] 83)
            clear H372
            obtain ⟨W378, hW⟩ : ∃ X, X = w371.alloc (.cells #[.int .i64 x375k, .string x375t, .int .i64 x375l, .int .i64 x375c, .slice a376 x375s.length cap377] 83) := ⟨_, rfl⟩
            rw [← hW] at H379
            have HW381 := Lib.hid hW
            clear hW
            generalize hb : w371.heap.size = b380 at H379
            have Hb382 := Lib.hid hb
            clear hb
            go_wp2_with fail
            rw [← HW381.out, Hb382.out]
            clear HW381 Hb382
            have H383 := Lib.hid H379.out.drew
            clear H379
            go_wp2_with fail
            refine wp_region_turns (.s 0 (.s 1 (.s 2 (.s 3 (.s 4 (.h 5 (.h 6 (.h 7 (.h 8 .nil))))))))) 8 (fun W' => W'.heap[b6]? = some (.cells #[.int .i64 t.kind, .string t.text, .int .i64 t.line, .int .i64 t.col] 157 (0, 0)) ∧ W'.heap[b357]? = some (.cells #[.int .i64 x354.kind, .string x354.text, .int .i64 x354.line, .int .i64 x354.col] 157 (0, 0)) ∧ W'.heap[b380]? = some (.cells #[.int .i64 x375k, .string x375t, .int .i64 x375l, .int .i64 x375c, .slice a376 x375s.length cap377] 83 (0, 0))) (by kernel_rfl) (by kernel_rfl) (fun c a d v w h => by cases d <;> exact h) (⟨H383.out.at (by simp), H383.out.at (by simp), H383.out.at (by simp)⟩) ?_
            refine turn_steady (tokV t) rfl rfl (fun W' hS => ?_) ?_
            · try unfold tokV
              try unfold ptr
              obtain ⟨hS0, hS1, hS2⟩ := hS
              obtain ⟨s00, s01, s02, s03, s04⟩ := four_facts hS0
              clear hS0
              obtain ⟨s10, s11, s12, s13, s14⟩ := four_facts hS1
              clear hS1
              obtain ⟨s20, s21, s22, s23, s24, s25, s26, s27, s28, s29, s210⟩ := five_facts hS2
              clear hS2
              go_simp
            refine turn_steady (.pointer (some ⟨b357, 1, none⟩)) rfl rfl (fun W' hS => ?_) ?_
            · try unfold tokV
              try unfold ptr
              obtain ⟨hS0, hS1, hS2⟩ := hS
              obtain ⟨s00, s01, s02, s03, s04⟩ := four_facts hS0
              clear hS0
              obtain ⟨s10, s11, s12, s13, s14⟩ := four_facts hS1
              clear hS1
              obtain ⟨s20, s21, s22, s23, s24, s25, s26, s27, s28, s29, s210⟩ := five_facts hS2
              clear hS2
              go_simp
            refine turn_steady (.string x354.text) rfl rfl (fun W' hS => ?_) ?_
            · try unfold tokV
              try unfold ptr
              obtain ⟨hS0, hS1, hS2⟩ := hS
              obtain ⟨s00, s01, s02, s03, s04⟩ := four_facts hS0
              clear hS0
              obtain ⟨s10, s11, s12, s13, s14⟩ := four_facts hS1
              clear hS1
              obtain ⟨s20, s21, s22, s23, s24, s25, s26, s27, s28, s29, s210⟩ := five_facts hS2
              clear hS2
              go_simp
            refine turn_steady (.agg #[.int .i64 x375k, .string x375t, .int .i64 x375l, .int .i64 x375c, .slice a376 x375s.length cap377]) rfl rfl (fun W' hS => ?_) ?_
            · try unfold tokV
              try unfold ptr
              obtain ⟨hS0, hS1, hS2⟩ := hS
              obtain ⟨s00, s01, s02, s03, s04⟩ := four_facts hS0
              clear hS0
              obtain ⟨s10, s11, s12, s13, s14⟩ := four_facts hS1
              clear hS1
              obtain ⟨s20, s21, s22, s23, s24, s25, s26, s27, s28, s29, s210⟩ := five_facts hS2
              clear hS2
              go_simp
            refine turn_steady (ptr bp) rfl rfl (fun W' hS => ?_) ?_
            · try unfold tokV
              try unfold ptr
              obtain ⟨hS0, hS1, hS2⟩ := hS
              obtain ⟨s00, s01, s02, s03, s04⟩ := four_facts hS0
              clear hS0
              obtain ⟨s10, s11, s12, s13, s14⟩ := four_facts hS1
              clear hS1
              obtain ⟨s20, s21, s22, s23, s24, s25, s26, s27, s28, s29, s210⟩ := five_facts hS2
              clear hS2
              go_simp
            refine turn_heavy rfl (fun K384 hK384 => ?_)
            try unfold tokV ptr
            go_wp2_with fail
            have hne : (pBlock en L) ts374 (dp) ≠ .out := fun h => Hr.out (Hsp373.out.trans (bind_out h))
            have Hc385 := Lib.hid (Hb0.out W378.drew ts374 (dp) H383.out.ps (by omega) (by omega) hne)
            try unfold ptr at Hc385
            clear hne
            refine Hc385.out.mono ?_
            rintro e w386 ⟨hg, hq⟩
            cases hm : (pBlock en L) ts374 (dp) with
            | out => exact absurd (Hsp373.out.trans (bind_out hm)) Hr.out
            | err ex el ec =>
              rw [hm] at hq
              obtain rfl := hq
              have Hf : Hid (pStmt en L ts dp = .err ex el ec) := Lib.hid (Hsp373.out.trans (bind_err hm))
              clear hm
              refine ⟨rfl, ?_⟩
              rw [Hf.out]
              exact ⟨grownBy_trans H383.out.grown hg, rfl⟩
            | ok x390 ts389 dq =>
              have hdq : dp = dq := by have := Inc.block hL _ _ _ _ _ hm; omega
              subst hdq
              rw [hm] at hq
              obtain ⟨x390k, x390t, x390l, x390c, x390s⟩ := x390
              obtain ⟨hps, v, rfl, hv⟩ := hq
              obtain ⟨a391, cap392, rfl, hrow⟩ := NodeV.open hv
              have Hccap392 := Lib.hid (NodeV.cap hv)
              have H387 := Lib.hid ((H383.out.call hg hps).row hrow H383.out.grown.size H383.out.lt)
              clear hv hrow
              have Hsp388 := Lib.hid (Hsp373.out.trans (bind_ok hm))
              clear hm hg hps Hc385 H383 Hsp373
              go_wp2_with fail
              refine hK384 _ _ (fun _ => ⟨H387.out.at (by simp), H387.out.at (by simp), H387.out.at (by simp)⟩) ?_
              refine turn_heavy rfl (fun K393 hK393 => ?_)
              try unfold tokV ptr
              go_wp2_with fail
              have H394 := Lib.hid (H387.out.lit 83 [[.int .i64 x375k, .string x375t, .int .i64 x375l, .int .i64 x375c, .slice a376 x375s.length cap377], [.int .i64 x390k, .string x390t, .int .i64 x390l, .int .i64 x390c, .slice a391 x390s.length cap392]] [.mk x375k x375t x375l x375c x375s, .mk x390k x390t x390l x390c x390s] rfl (by simp) rfl (fun j n c hj hc => by
                have hjl := (List.getElem?_eq_some_iff.1 hc).1
                simp only [List.length_cons, List.length_nil] at hjl
                obtain rfl | rfl : j = 0 ∨ j = 1 := by omega
                · simp at hj hc
                  subst hj hc
                  exact ⟨_, _, _, _, _, _, _, rfl, rfl, .inl (by simp)⟩
                · simp at hj hc
                  subst hj hc
                  exact ⟨_, _, _, _, _, _, _, rfl, rfl, .inl (by simp)⟩))
              clear H387
              refine hK393 _ _ (fun _ => ⟨H394.out.at (by simp), H394.out.at (by simp), H394.out.at (by simp)⟩) ?_
              refine turn_heavy rfl (fun K395 hK395 => ?_)
              try unfold tokV ptr
              go_wp2_with fail
              have Hnd := Lib.hid (node_any 4 t x354.text (some ⟨w386.heap.size, 0, none⟩) 2 2 (w386.alloc (.cells #[.int .i64 x375k, .string x375t, .int .i64 x375l, .int .i64 x375c, .slice a376 x375s.length cap377, .int .i64 x390k, .string x390t, .int .i64 x390l, .int .i64 x390c, .slice a391 x390s.length cap392] 83)))
              unfold tokV nodeC at Hnd
              refine Hnd.out.mono ?_
              rintro e w396 ⟨rfl, hb⟩
              have H397 := Lib.hid (H394.out.below hb)
              clear hb Hnd H394
              go_wp2_with fail
              refine hK395 _ _ (fun _ => ⟨H397.out.at (by simp), H397.out.at (by simp), H397.out.at (by simp)⟩) ?_
              obtain ⟨r398, r399, r400, r401, r402, r403, r404, r405, r406, r407, r408⟩ := five_facts (H397.out.at (b := w.heap.size) (cs := #[.int .i64 0, .string ⟨#[]⟩, .int .i64 0, .int .i64 0, .slice none 0 0]) (T := 83) (by simp))
              refine turn_heavy rfl (fun K409 hK409 => ?_)
              try unfold tokV ptr
              go_wp2_with fail
              refine hK409 _ _ (fun h => absurd rfl h) ?_
              refine turn_end ?_
              go_wp2_with fail
              refine bodyPost_ret (v := .agg #[.int .i64 4, .string x354.text, .int .i64 t.line, .int .i64 t.col, .slice (some ⟨w386.heap.size, 0, none⟩) 2 2]) (by simp [results, Tryz.results129, go_sem, r399, r400, r401, r402, r403]) rfl ?_
              have G := Lib.hid (H397.out.put5 3 rfl (.int .i64 4) (.string x354.text) (.int .i64 t.line) (.int .i64 t.col) (.slice (some ⟨w386.heap.size, 0, none⟩) 2 2))
              rw [Hsp388.out]
              exact ⟨G.out.grown, G.out.ps, _, rfl, NodeV.mk _ _ _ _ _ (G.out.hand (by simp))⟩

end Go.Proofs.YthknljeffpbbmaaGreatDoor
namespace Go.Proofs.YthknljeffpbbmaaGreatDoor
open Go Go.RowKit

set_option maxRecDepth 100000 in
set_option maxHeartbeats 8000000 in
theorem arg_any (bp : Nat) (en : Int × Int) (L : Lvl) (hL : LInc L) (hx : Does 155 bp en VNode L.expr) : Does 177 bp en VNode (pArg en L) := by
  intro w ts dp hp hd0 hd1 hr
  have Hr := Lib.hid hr
  have Hx := Lib.hid hx
  clear hx
  have hsp : pArg en L ts dp = (if isNameT en ts && isSign en ts 1 [61] then PM.bind (pTake en true) (fun _ => PM.bind (pEat en [61]) fun _ => PM.bind L.expr fun x => PM.pure (nodeT 15 (tokAt en ts 0) (tokAt en ts 0).text [x])) else PM.bind L.expr (fun x => PM.pure (nodeT 15 (tokAt en ts 0) ⟨#[]⟩ [x]))) ts dp := rfl
  have Hsp := Lib.hid hsp
  have H0 := Lib.hid ((PI.start hp).alloc #[.int .i64 0, .string ⟨#[]⟩, .int .i64 0, .int .i64 0, .slice none 0 0] 83)
  clear hp hr hsp
  unfold ptr
  go_enter Tryz.func177, Tryz.ntmps177
  go_wp2_with fail
  have Hc1 := Lib.hid (at_any bp 0 en ts (dp) (w.alloc (.cells #[.int .i64 0, .string ⟨#[]⟩, .int .i64 0, .int .i64 0, .slice none 0 0] 83)) (by omega) H0.out.ps)
  try unfold ptr at Hc1
  refine Hc1.out.mono ?_
  rintro e w2 ⟨rfl, hb⟩
  have H3 := Lib.hid (H0.out.below hb)
  clear hb Hc1 H0
  try unfold tokV
  generalize tokAt en ts 0 = t at Hsp ⊢
  have H5 := Lib.hid (H3.out.alloc #[.int .i64 t.kind, .string t.text, .int .i64 t.line, .int .i64 t.col] 157)
  clear H3
  obtain ⟨W4, hW⟩ : ∃ X, X = w2.alloc (.cells #[.int .i64 t.kind, .string t.text, .int .i64 t.line, .int .i64 t.col] 157) := ⟨_, rfl⟩
  rw [← hW] at H5
  have HW7 := Lib.hid hW
  clear hW
  generalize hb : w2.heap.size = b6 at H5
  have Hb8 := Lib.hid hb
  clear hb
  go_wp2_with fail
  rw [← HW7.out, Hb8.out]
  clear HW7 Hb8
  have Hc9 := Lib.hid (name_any bp en ts (dp) W4 H5.out.ps)
  try unfold ptr at Hc9
  refine Hc9.out.mono ?_
  rintro e w10 ⟨rfl, hb⟩
  have H11 := Lib.hid (H5.out.below hb)
  clear hb Hc9 H5
  cases hn : isNameT en ts
  · have Hsp12 : Hid (pArg en L ts dp = PM.bind L.expr (fun x => PM.pure (nodeT 15 t ⟨#[]⟩ [x])) ts dp) := Lib.hid (by rw [Hsp.out, hn] <;> rfl)
    clear Hsp
    try rw [hn]
    clear hn
    have H13 := Lib.hid H11.out.drew
    clear H11
    go_wp2_with fail
    refine wp_region_turns (.s 0 (.s 1 (.h 2 (.h 3 (.h 4 (.h 5 .nil)))))) 5 (fun W' => W'.heap[b6]? = some (.cells #[.int .i64 t.kind, .string t.text, .int .i64 t.line, .int .i64 t.col] 157 (0, 0))) (by kernel_rfl) (by kernel_rfl) (fun c a d v w h => by cases d <;> exact h) (H13.out.at (by simp)) ?_
    refine turn_steady (tokV t) rfl rfl (fun W' hS => ?_) ?_
    · try unfold tokV
      try unfold ptr
      have hS0 := hS
      obtain ⟨s00, s01, s02, s03, s04⟩ := four_facts hS0
      clear hS0
      go_simp
    refine turn_steady (ptr bp) rfl rfl (fun W' hS => ?_) ?_
    · try unfold tokV
      try unfold ptr
      have hS0 := hS
      obtain ⟨s00, s01, s02, s03, s04⟩ := four_facts hS0
      clear hS0
      go_simp
    refine turn_heavy rfl (fun K14 hK14 => ?_)
    try unfold tokV ptr
    go_wp2_with fail
    have hne : (L.expr) ts (dp) ≠ .out := fun h => Hr.out (Hsp12.out.trans (bind_out h))
    have Hc15 := Lib.hid (Hx.out w10.drew ts (dp) H13.out.ps (by omega) (by omega) hne)
    try unfold ptr at Hc15
    clear hne
    refine Hc15.out.mono ?_
    rintro e w16 ⟨hg, hq⟩
    cases hm : (L.expr) ts (dp) with
    | out => exact absurd (Hsp12.out.trans (bind_out hm)) Hr.out
    | err ex el ec =>
      rw [hm] at hq
      obtain rfl := hq
      have Hf : Hid (pArg en L ts dp = .err ex el ec) := Lib.hid (Hsp12.out.trans (bind_err hm))
      clear hm
      refine ⟨rfl, ?_⟩
      rw [Hf.out]
      exact ⟨grownBy_trans H13.out.grown hg, rfl⟩
    | ok x20 ts19 dq =>
      have hdq : dp = dq := by have := hL.expr _ _ _ _ _ hm; omega
      subst hdq
      rw [hm] at hq
      obtain ⟨x20k, x20t, x20l, x20c, x20s⟩ := x20
      obtain ⟨hps, v, rfl, hv⟩ := hq
      obtain ⟨a21, cap22, rfl, hrow⟩ := NodeV.open hv
      have Hccap22 := Lib.hid (NodeV.cap hv)
      have H17 := Lib.hid ((H13.out.call hg hps).row hrow H13.out.grown.size H13.out.lt)
      clear hv hrow
      have Hsp18 := Lib.hid (Hsp12.out.trans (bind_ok hm))
      clear hm hg hps Hc15 H13 Hsp12
      go_wp2_with fail
      refine hK14 _ _ (fun _ => H17.out.at (by simp)) ?_
      refine turn_heavy rfl (fun K23 hK23 => ?_)
      try unfold tokV ptr
      go_wp2_with fail
      have H24 := Lib.hid (H17.out.lit 83 [[.int .i64 x20k, .string x20t, .int .i64 x20l, .int .i64 x20c, .slice a21 x20s.length cap22]] [.mk x20k x20t x20l x20c x20s] rfl (by simp) rfl (fun j n c hj hc => by
        have hjl := (List.getElem?_eq_some_iff.1 hc).1
        simp only [List.length_cons, List.length_nil] at hjl
        obtain rfl : j = 0 := by omega
        · simp at hj hc
          subst hj hc
          exact ⟨_, _, _, _, _, _, _, rfl, rfl, .inl (by simp)⟩))
      clear H17
      refine hK23 _ _ (fun _ => H24.out.at (by simp)) ?_
      refine turn_heavy rfl (fun K25 hK25 => ?_)
      try unfold tokV ptr
      go_wp2_with fail
      have Hnd := Lib.hid (node_any 15 t ⟨#[]⟩ (some ⟨w16.heap.size, 0, none⟩) 1 1 (w16.alloc (.cells #[.int .i64 x20k, .string x20t, .int .i64 x20l, .int .i64 x20c, .slice a21 x20s.length cap22] 83)))
      unfold tokV nodeC at Hnd
      refine Hnd.out.mono ?_
      rintro e w26 ⟨rfl, hb⟩
      have H27 := Lib.hid (H24.out.below hb)
      clear hb Hnd H24
      go_wp2_with fail
      refine hK25 _ _ (fun _ => H27.out.at (by simp)) ?_
      obtain ⟨r28, r29, r30, r31, r32, r33, r34, r35, r36, r37, r38⟩ := five_facts (H27.out.at (b := w.heap.size) (cs := #[.int .i64 0, .string ⟨#[]⟩, .int .i64 0, .int .i64 0, .slice none 0 0]) (T := 83) (by simp))
      refine turn_heavy rfl (fun K39 hK39 => ?_)
      try unfold tokV ptr
      go_wp2_with fail
      refine hK39 _ _ (fun h => absurd rfl h) ?_
      refine turn_end ?_
      go_wp2_with fail
      refine bodyPost_ret (v := .agg #[.int .i64 15, .string ⟨#[]⟩, .int .i64 t.line, .int .i64 t.col, .slice (some ⟨w16.heap.size, 0, none⟩) 1 1]) (by simp [results, Tryz.results177, go_sem, r29, r30, r31, r32, r33]) rfl ?_
      have G := Lib.hid (H27.out.put5 1 rfl (.int .i64 15) (.string ⟨#[]⟩) (.int .i64 t.line) (.int .i64 t.col) (.slice (some ⟨w16.heap.size, 0, none⟩) 1 1))
      rw [Hsp18.out]
      exact ⟨G.out.grown, G.out.ps, _, rfl, NodeV.mk _ _ _ _ _ (G.out.hand (by simp))⟩
  · have Hn := Lib.hid hn
    try rw [hn]
    clear hn
    have Hc40 := Lib.hid (sign_any bp 1 ⟨#[61]⟩ en ts (dp) w10 (by omega) H11.out.ps)
    try unfold ptr at Hc40
    go_wp2_with fail
    refine Hc40.out.mono ?_
    rintro e w41 ⟨rfl, hb⟩
    have H42 := Lib.hid (H11.out.below hb)
    clear hb Hc40 H11
    cases hs : isSign en ts 1 [61]
    · have Hsp43 : Hid (pArg en L ts dp = PM.bind L.expr (fun x => PM.pure (nodeT 15 t ⟨#[]⟩ [x])) ts dp) := Lib.hid (by rw [Hsp.out, Hn.out, hs] <;> rfl)
      clear Hsp
      try rw [hs]
      clear hs Hn
      have H44 := Lib.hid H42.out.drew
      clear H42
      go_wp2_with fail
      refine wp_region_turns (.s 0 (.s 1 (.h 2 (.h 3 (.h 4 (.h 5 .nil)))))) 5 (fun W' => W'.heap[b6]? = some (.cells #[.int .i64 t.kind, .string t.text, .int .i64 t.line, .int .i64 t.col] 157 (0, 0))) (by kernel_rfl) (by kernel_rfl) (fun c a d v w h => by cases d <;> exact h) (H44.out.at (by simp)) ?_
      refine turn_steady (tokV t) rfl rfl (fun W' hS => ?_) ?_
      · try unfold tokV
        try unfold ptr
        have hS0 := hS
        obtain ⟨s00, s01, s02, s03, s04⟩ := four_facts hS0
        clear hS0
        go_simp
      refine turn_steady (ptr bp) rfl rfl (fun W' hS => ?_) ?_
      · try unfold tokV
        try unfold ptr
        have hS0 := hS
        obtain ⟨s00, s01, s02, s03, s04⟩ := four_facts hS0
        clear hS0
        go_simp
      refine turn_heavy rfl (fun K45 hK45 => ?_)
      try unfold tokV ptr
      go_wp2_with fail
      have hne : (L.expr) ts (dp) ≠ .out := fun h => Hr.out (Hsp43.out.trans (bind_out h))
      have Hc46 := Lib.hid (Hx.out w41.drew ts (dp) H44.out.ps (by omega) (by omega) hne)
      try unfold ptr at Hc46
      clear hne
      refine Hc46.out.mono ?_
      rintro e w47 ⟨hg, hq⟩
      cases hm : (L.expr) ts (dp) with
      | out => exact absurd (Hsp43.out.trans (bind_out hm)) Hr.out
      | err ex el ec =>
        rw [hm] at hq
        obtain rfl := hq
        have Hf : Hid (pArg en L ts dp = .err ex el ec) := Lib.hid (Hsp43.out.trans (bind_err hm))
        clear hm
        refine ⟨rfl, ?_⟩
        rw [Hf.out]
        exact ⟨grownBy_trans H44.out.grown hg, rfl⟩
      | ok x51 ts50 dq =>
        have hdq : dp = dq := by have := hL.expr _ _ _ _ _ hm; omega
        subst hdq
        rw [hm] at hq
        obtain ⟨x51k, x51t, x51l, x51c, x51s⟩ := x51
        obtain ⟨hps, v, rfl, hv⟩ := hq
        obtain ⟨a52, cap53, rfl, hrow⟩ := NodeV.open hv
        have Hccap53 := Lib.hid (NodeV.cap hv)
        have H48 := Lib.hid ((H44.out.call hg hps).row hrow H44.out.grown.size H44.out.lt)
        clear hv hrow
        have Hsp49 := Lib.hid (Hsp43.out.trans (bind_ok hm))
        clear hm hg hps Hc46 H44 Hsp43
        go_wp2_with fail
        refine hK45 _ _ (fun _ => H48.out.at (by simp)) ?_
        refine turn_heavy rfl (fun K54 hK54 => ?_)
        try unfold tokV ptr
        go_wp2_with fail
        have H55 := Lib.hid (H48.out.lit 83 [[.int .i64 x51k, .string x51t, .int .i64 x51l, .int .i64 x51c, .slice a52 x51s.length cap53]] [.mk x51k x51t x51l x51c x51s] rfl (by simp) rfl (fun j n c hj hc => by
          have hjl := (List.getElem?_eq_some_iff.1 hc).1
          simp only [List.length_cons, List.length_nil] at hjl
          obtain rfl : j = 0 := by omega
          · simp at hj hc
            subst hj hc
            exact ⟨_, _, _, _, _, _, _, rfl, rfl, .inl (by simp)⟩))
        clear H48
        refine hK54 _ _ (fun _ => H55.out.at (by simp)) ?_
        refine turn_heavy rfl (fun K56 hK56 => ?_)
        try unfold tokV ptr
        go_wp2_with fail
        have Hnd := Lib.hid (node_any 15 t ⟨#[]⟩ (some ⟨w47.heap.size, 0, none⟩) 1 1 (w47.alloc (.cells #[.int .i64 x51k, .string x51t, .int .i64 x51l, .int .i64 x51c, .slice a52 x51s.length cap53] 83)))
        unfold tokV nodeC at Hnd
        refine Hnd.out.mono ?_
        rintro e w57 ⟨rfl, hb⟩
        have H58 := Lib.hid (H55.out.below hb)
        clear hb Hnd H55
        go_wp2_with fail
        refine hK56 _ _ (fun _ => H58.out.at (by simp)) ?_
        obtain ⟨r59, r60, r61, r62, r63, r64, r65, r66, r67, r68, r69⟩ := five_facts (H58.out.at (b := w.heap.size) (cs := #[.int .i64 0, .string ⟨#[]⟩, .int .i64 0, .int .i64 0, .slice none 0 0]) (T := 83) (by simp))
        refine turn_heavy rfl (fun K70 hK70 => ?_)
        try unfold tokV ptr
        go_wp2_with fail
        refine hK70 _ _ (fun h => absurd rfl h) ?_
        refine turn_end ?_
        go_wp2_with fail
        refine bodyPost_ret (v := .agg #[.int .i64 15, .string ⟨#[]⟩, .int .i64 t.line, .int .i64 t.col, .slice (some ⟨w47.heap.size, 0, none⟩) 1 1]) (by simp [results, Tryz.results177, go_sem, r60, r61, r62, r63, r64]) rfl ?_
        have G := Lib.hid (H58.out.put5 1 rfl (.int .i64 15) (.string ⟨#[]⟩) (.int .i64 t.line) (.int .i64 t.col) (.slice (some ⟨w47.heap.size, 0, none⟩) 1 1))
        rw [Hsp49.out]
        exact ⟨G.out.grown, G.out.ps, _, rfl, NodeV.mk _ _ _ _ _ (G.out.hand (by simp))⟩
    · have Hsp71 : Hid (pArg en L ts dp = PM.bind (pTake en true) (fun _ => PM.bind (pEat en [61]) fun _ => PM.bind L.expr fun x => PM.pure (nodeT 15 t t.text [x])) ts dp) := Lib.hid (by rw [Hsp.out, Hn.out, hs] <;> rfl)
      clear Hsp
      try rw [hs]
      clear hs Hn
      have hne : (pTake en true) ts (dp) ≠ .out := fun h => Hr.out (Hsp71.out.trans (bind_out h))
      have Hc72 := Lib.hid (take_any bp true en ts (dp) w41 H42.out.ps hne)
      try unfold ptr at Hc72
      clear hne
      go_wp2_with fail
      refine Hc72.out.mono ?_
      rintro e w73 ⟨hg, hq⟩
      cases hm : (pTake en true) ts (dp) with
      | out => exact absurd (Hsp71.out.trans (bind_out hm)) Hr.out
      | err ex el ec =>
        rw [hm] at hq
        obtain rfl := hq
        have Hf : Hid (pArg en L ts dp = .err ex el ec) := Lib.hid (Hsp71.out.trans (bind_err hm))
        clear hm
        refine ⟨rfl, ?_⟩
        rw [Hf.out]
        exact ⟨grownBy_trans H42.out.grown hg, rfl⟩
      | ok x77 ts76 dq =>
        have hdq : dp = dq := by have := Inc.take _ _ _ _ _ _ hm; omega
        subst hdq
        rw [hm] at hq
        obtain ⟨hps, v, rfl, -⟩ := hq
        have H74 := Lib.hid (H42.out.call hg hps)
        have Hsp75 := Lib.hid (Hsp71.out.trans (bind_ok hm))
        clear hm hg hps Hc72 H42 Hsp71
        have hne : (pEat en [61]) ts76 (dp) ≠ .out := fun h => Hr.out (Hsp75.out.trans (bind_out h))
        have Hc78 := Lib.hid (eat_any bp ⟨#[61]⟩ en ts76 (dp) w73 H74.out.ps hne)
        try unfold ptr at Hc78
        clear hne
        go_wp2_with fail
        refine Hc78.out.mono ?_
        rintro e w79 ⟨hg, hq⟩
        cases hm : (pEat en [61]) ts76 (dp) with
        | out => exact absurd (Hsp75.out.trans (bind_out hm)) Hr.out
        | err ex el ec =>
          rw [hm] at hq
          obtain rfl := hq
          have Hf : Hid (pArg en L ts dp = .err ex el ec) := Lib.hid (Hsp75.out.trans (bind_err hm))
          clear hm
          refine ⟨rfl, ?_⟩
          rw [Hf.out]
          exact ⟨grownBy_trans H74.out.grown hg, rfl⟩
        | ok x83 ts82 dq =>
          have hdq : dp = dq := by have := Inc.eat _ _ _ _ _ _ hm; omega
          subst hdq
          rw [hm] at hq
          obtain ⟨hps, v, rfl, -⟩ := hq
          have H80 := Lib.hid (H74.out.call hg hps)
          have Hsp81 := Lib.hid (Hsp75.out.trans (bind_ok hm))
          clear hm hg hps Hc78 H74 Hsp75
          have H84 := Lib.hid H80.out.drew
          clear H80
          go_wp2_with fail
          refine wp_region_turns (.s 0 (.s 1 (.s 2 (.s 3 (.h 4 (.h 5 (.h 6 (.h 7 .nil)))))))) 7 (fun W' => W'.heap[b6]? = some (.cells #[.int .i64 t.kind, .string t.text, .int .i64 t.line, .int .i64 t.col] 157 (0, 0))) (by kernel_rfl) (by kernel_rfl) (fun c a d v w h => by cases d <;> exact h) (H84.out.at (by simp)) ?_
          refine turn_steady (tokV t) rfl rfl (fun W' hS => ?_) ?_
          · try unfold tokV
            try unfold ptr
            have hS0 := hS
            obtain ⟨s00, s01, s02, s03, s04⟩ := four_facts hS0
            clear hS0
            go_simp
          refine turn_steady (.pointer (some ⟨b6, 1, none⟩)) rfl rfl (fun W' hS => ?_) ?_
          · try unfold tokV
            try unfold ptr
            have hS0 := hS
            obtain ⟨s00, s01, s02, s03, s04⟩ := four_facts hS0
            clear hS0
            go_simp
          refine turn_steady (.string t.text) rfl rfl (fun W' hS => ?_) ?_
          · try unfold tokV
            try unfold ptr
            have hS0 := hS
            obtain ⟨s00, s01, s02, s03, s04⟩ := four_facts hS0
            clear hS0
            go_simp
          refine turn_steady (ptr bp) rfl rfl (fun W' hS => ?_) ?_
          · try unfold tokV
            try unfold ptr
            have hS0 := hS
            obtain ⟨s00, s01, s02, s03, s04⟩ := four_facts hS0
            clear hS0
            go_simp
          refine turn_heavy rfl (fun K85 hK85 => ?_)
          try unfold tokV ptr
          go_wp2_with fail
          have hne : (L.expr) ts82 (dp) ≠ .out := fun h => Hr.out (Hsp81.out.trans (bind_out h))
          have Hc86 := Lib.hid (Hx.out w79.drew ts82 (dp) H84.out.ps (by omega) (by omega) hne)
          try unfold ptr at Hc86
          clear hne
          refine Hc86.out.mono ?_
          rintro e w87 ⟨hg, hq⟩
          cases hm : (L.expr) ts82 (dp) with
          | out => exact absurd (Hsp81.out.trans (bind_out hm)) Hr.out
          | err ex el ec =>
            rw [hm] at hq
            obtain rfl := hq
            have Hf : Hid (pArg en L ts dp = .err ex el ec) := Lib.hid (Hsp81.out.trans (bind_err hm))
            clear hm
            refine ⟨rfl, ?_⟩
            rw [Hf.out]
            exact ⟨grownBy_trans H84.out.grown hg, rfl⟩
          | ok x91 ts90 dq =>
            have hdq : dp = dq := by have := hL.expr _ _ _ _ _ hm; omega
            subst hdq
            rw [hm] at hq
            obtain ⟨x91k, x91t, x91l, x91c, x91s⟩ := x91
            obtain ⟨hps, v, rfl, hv⟩ := hq
            obtain ⟨a92, cap93, rfl, hrow⟩ := NodeV.open hv
            have Hccap93 := Lib.hid (NodeV.cap hv)
            have H88 := Lib.hid ((H84.out.call hg hps).row hrow H84.out.grown.size H84.out.lt)
            clear hv hrow
            have Hsp89 := Lib.hid (Hsp81.out.trans (bind_ok hm))
            clear hm hg hps Hc86 H84 Hsp81
            go_wp2_with fail
            refine hK85 _ _ (fun _ => H88.out.at (by simp)) ?_
            refine turn_heavy rfl (fun K94 hK94 => ?_)
            try unfold tokV ptr
            go_wp2_with fail
            have H95 := Lib.hid (H88.out.lit 83 [[.int .i64 x91k, .string x91t, .int .i64 x91l, .int .i64 x91c, .slice a92 x91s.length cap93]] [.mk x91k x91t x91l x91c x91s] rfl (by simp) rfl (fun j n c hj hc => by
              have hjl := (List.getElem?_eq_some_iff.1 hc).1
              simp only [List.length_cons, List.length_nil] at hjl
              obtain rfl : j = 0 := by omega
              · simp at hj hc
                subst hj hc
                exact ⟨_, _, _, _, _, _, _, rfl, rfl, .inl (by simp)⟩))
            clear H88
            refine hK94 _ _ (fun _ => H95.out.at (by simp)) ?_
            refine turn_heavy rfl (fun K96 hK96 => ?_)
            try unfold tokV ptr
            go_wp2_with fail
            have Hnd := Lib.hid (node_any 15 t t.text (some ⟨w87.heap.size, 0, none⟩) 1 1 (w87.alloc (.cells #[.int .i64 x91k, .string x91t, .int .i64 x91l, .int .i64 x91c, .slice a92 x91s.length cap93] 83)))
            unfold tokV nodeC at Hnd
            refine Hnd.out.mono ?_
            rintro e w97 ⟨rfl, hb⟩
            have H98 := Lib.hid (H95.out.below hb)
            clear hb Hnd H95
            go_wp2_with fail
            refine hK96 _ _ (fun _ => H98.out.at (by simp)) ?_
            obtain ⟨r99, r100, r101, r102, r103, r104, r105, r106, r107, r108, r109⟩ := five_facts (H98.out.at (b := w.heap.size) (cs := #[.int .i64 0, .string ⟨#[]⟩, .int .i64 0, .int .i64 0, .slice none 0 0]) (T := 83) (by simp))
            refine turn_heavy rfl (fun K110 hK110 => ?_)
            try unfold tokV ptr
            go_wp2_with fail
            refine hK110 _ _ (fun h => absurd rfl h) ?_
            refine turn_end ?_
            go_wp2_with fail
            refine bodyPost_ret (v := .agg #[.int .i64 15, .string t.text, .int .i64 t.line, .int .i64 t.col, .slice (some ⟨w87.heap.size, 0, none⟩) 1 1]) (by simp [results, Tryz.results177, go_sem, r100, r101, r102, r103, r104]) rfl ?_
            have G := Lib.hid (H98.out.put5 1 rfl (.int .i64 15) (.string t.text) (.int .i64 t.line) (.int .i64 t.col) (.slice (some ⟨w87.heap.size, 0, none⟩) 1 1))
            rw [Hsp89.out]
            exact ⟨G.out.grown, G.out.ps, _, rfl, NodeV.mk _ _ _ _ _ (G.out.hand (by simp))⟩

end Go.Proofs.YthknljeffpbbmaaGreatDoor
namespace Go.Proofs.YthknljeffpbbmaaGreatDoor
open Go Go.RowKit

set_option maxRecDepth 100000 in
set_option maxHeartbeats 8000000 in
theorem sum_any (bp : Nat) (en : Int × Int) (L : Lvl) (hi : Inc 0 (pPrim en L)) (hx : Does 185 bp en VNode (pPrim en L)) : Does 170 bp en VNode (pSum en L) := by
  intro w ts dp hp hd0 hd1 hr
  have Hr := Lib.hid hr
  have Hx := Lib.hid hx
  clear hx
  have hsp : pSum en L ts dp = PM.bind (pPrim en L) (fun x ts d => pSumGo en L (ts.length + 1) x ts d) ts dp := rfl
  have Hsp := Lib.hid hsp
  have H0 := Lib.hid ((PI.start hp).alloc #[.int .i64 0, .string ⟨#[]⟩, .int .i64 0, .int .i64 0, .slice none 0 0] 83)
  clear hp hr hsp
  unfold ptr
  go_enter Tryz.func170, Tryz.ntmps170
  go_wp2_with fail
  have hne : (pPrim en L) ts (dp) ≠ .out := fun h => Hr.out (Hsp.out.trans (bind_out h))
  have Hc1 := Lib.hid (Hx.out (w.alloc (.cells #[.int .i64 0, .string ⟨#[]⟩, .int .i64 0, .int .i64 0, .slice none 0 0] 83)) ts (dp) H0.out.ps (by omega) (by omega) hne)
  try unfold ptr at Hc1
  clear hne
  refine Hc1.out.mono ?_
  rintro e w2 ⟨hg, hq⟩
  cases hm : (pPrim en L) ts (dp) with
  | out => exact absurd (Hsp.out.trans (bind_out hm)) Hr.out
  | err ex el ec =>
    rw [hm] at hq
    obtain rfl := hq
    have Hf : Hid (pSum en L ts dp = .err ex el ec) := Lib.hid (Hsp.out.trans (bind_err hm))
    clear hm
    refine ⟨rfl, ?_⟩
    rw [Hf.out]
    exact ⟨grownBy_trans H0.out.grown hg, rfl⟩
  | ok x6 ts5 dq =>
    have hdq : dp = dq := by have := hi _ _ _ _ _ hm; omega
    subst hdq
    rw [hm] at hq
    obtain ⟨x6k, x6t, x6l, x6c, x6s⟩ := x6
    obtain ⟨hps, v, rfl, hv⟩ := hq
    obtain ⟨a7, cap8, rfl, hrow⟩ := NodeV.open hv
    have Hccap8 := Lib.hid (NodeV.cap hv)
    have H3 := Lib.hid ((H0.out.call hg hps).row hrow H0.out.grown.size H0.out.lt)
    clear hv hrow
    have Hsp4 := Lib.hid (Hsp.out.trans (bind_ok hm))
    clear hm hg hps Hc1 H0 Hsp
    have H10 := Lib.hid (H3.out.alloc #[.int .i64 x6k, .string x6t, .int .i64 x6l, .int .i64 x6c, .slice a7 x6s.length cap8] 83)
    clear H3
    obtain ⟨W9, hW⟩ : ∃ X, X = w2.alloc (.cells #[.int .i64 x6k, .string x6t, .int .i64 x6l, .int .i64 x6c, .slice a7 x6s.length cap8] 83) := ⟨_, rfl⟩
    rw [← hW] at H10
    have HW12 := Lib.hid hW
    clear hW
    generalize hb : w2.heap.size = b11 at H10
    have Hb13 := Lib.hid hb
    clear hb
    go_wp2_with fail
    rw [← HW12.out, Hb13.out]
    clear HW12 Hb13
    have Hsp14 : Hid (pSum en L ts dp = pSumGo en L (ts5.length + 1) (.mk x6k x6t x6l x6c x6s) ts5 dp) := Lib.hid (by rw [Hsp4.out] <;> rfl)
    clear Hsp4
    go_loopg [] (ts5.length + 1) (fun g wr => ∃ (k0 : Int) (t0 : ByteArray) (l0 c0 : Int) (kids0 : List Nd) (a0 : Option Addr) (cap0 : Nat) (ts1 : List Tok), Hid (pSum en L ts dp = pSumGo en L g (.mk k0 t0 l0 c0 kids0) ts1 dp) ∧ Hid (PI w bp en ts1 dp [(b11, #[.int .i64 k0, .string t0, .int .i64 l0, .int .i64 c0, .slice a0 kids0.length cap0], 83), (w.heap.size, #[.int .i64 0, .string ⟨#[]⟩, .int .i64 0, .int .i64 0, .slice none 0 0], 83)] [(a0, kids0)] wr) ∧ Hid (k0 = 6 → kids0.length ≤ cap0))
    case atStart => exact ⟨_, _, _, _, _, _, _, _, Hsp14, H10, Hccap8⟩
    case round =>
      clear Hsp14 H10
      obtain ⟨k0, t0, l0, c0, kids0, a0, cap0, ts1, Hs0, Hi0, Hccap0⟩ := hrel
      cases gk with
      | zero => exact absurd Hs0.out Hr.out
      | succ g =>
        have Hc15 := Lib.hid (sign_any bp 0 ⟨#[43]⟩ en ts1 (dp) wr (by omega) Hi0.out.ps)
        try unfold ptr at Hc15
        go_wp2_with fail
        refine Hc15.out.mono ?_
        rintro e w16 ⟨rfl, hb⟩
        have H17 := Lib.hid (Hi0.out.below hb)
        clear hb Hc15 Hi0
        cases h1 : isSign en ts1 0 [43]
        · try rw [h1]
          have Hsp18 : Hid (pSum en L ts dp = PM.pure (.mk k0 t0 l0 c0 kids0) ts1 dp) := Lib.hid (by rw [Hs0.out, pSumGo, pLook, h1] <;> rfl)
          clear Hs0
          clear h1
          obtain ⟨r19, r20, r21, r22, r23, r24, r25, r26, r27, r28, r29⟩ := five_facts (H17.out.at (b := b11) (cs := #[.int .i64 k0, .string t0, .int .i64 l0, .int .i64 c0, .slice a0 kids0.length cap0]) (T := 83) (by simp))
          obtain ⟨r30, r31, r32, r33, r34, r35, r36, r37, r38, r39, r40⟩ := five_facts (H17.out.at (b := w.heap.size) (cs := #[.int .i64 0, .string ⟨#[]⟩, .int .i64 0, .int .i64 0, .slice none 0 0]) (T := 83) (by simp))
          go_wp2_with fail
          refine bodyPost_ret (v := .agg #[.int .i64 k0, .string t0, .int .i64 l0, .int .i64 c0, .slice a0 kids0.length cap0]) (by simp [results, Tryz.results170, go_sem, r31, r32, r33, r34, r35]) rfl ?_
          have G := Lib.hid (H17.out.put5 1 rfl (.int .i64 k0) (.string t0) (.int .i64 l0) (.int .i64 c0) (.slice a0 kids0.length cap0))
          rw [Hsp18.out]
          exact ⟨G.out.grown, G.out.ps, _, rfl, NodeV.mk _ _ _ _ _ (G.out.hand (by simp))⟩
        · try rw [h1]
          have Hsp41 : Hid (pSum en L ts dp = PM.bind (pTake en true) (fun t => PM.bind (pPrim en L) fun y => pSumGo en L g (nodeT 16 t (bs [43]) [.mk k0 t0 l0 c0 kids0, y])) ts1 dp) := Lib.hid (by rw [Hs0.out, pSumGo, pLook, h1] <;> rfl)
          clear Hs0
          clear h1
          have hne : (pTake en true) ts1 (dp) ≠ .out := fun h => Hr.out (Hsp41.out.trans (bind_out h))
          have Hc42 := Lib.hid (take_any bp true en ts1 (dp) w16 H17.out.ps hne)
          try unfold ptr at Hc42
          clear hne
          go_wp2_with fail
          refine Hc42.out.mono ?_
          rintro e w43 ⟨hg, hq⟩
          cases hm : (pTake en true) ts1 (dp) with
          | out => exact absurd (Hsp41.out.trans (bind_out hm)) Hr.out
          | err ex el ec =>
            rw [hm] at hq
            obtain rfl := hq
            have Hf : Hid (pSum en L ts dp = .err ex el ec) := Lib.hid (Hsp41.out.trans (bind_err hm))
            clear hm
            refine ⟨rfl, ?_⟩
            rw [Hf.out]
            exact ⟨grownBy_trans H17.out.grown hg, rfl⟩
          | ok x47 ts46 dq =>
            have hdq : dp = dq := by have := Inc.take _ _ _ _ _ _ hm; omega
            subst hdq
            rw [hm] at hq
            obtain ⟨hps, v, rfl, rfl⟩ := hq
            have H44 := Lib.hid (H17.out.call hg hps)
            try unfold tokV
            have Hsp45 := Lib.hid (Hsp41.out.trans (bind_ok hm))
            clear hm hg hps Hc42 H17 Hsp41
            have H49 := Lib.hid (H44.out.alloc #[.int .i64 x47.kind, .string x47.text, .int .i64 x47.line, .int .i64 x47.col] 157)
            clear H44
            obtain ⟨W48, hW⟩ : ∃ X, X = w43.alloc (.cells #[.int .i64 x47.kind, .string x47.text, .int .i64 x47.line, .int .i64 x47.col] 157) := ⟨_, rfl⟩
            rw [← hW] at H49
            have HW51 := Lib.hid hW
            clear hW
            generalize hb : w43.heap.size = b50 at H49
            have Hb52 := Lib.hid hb
            clear hb
            go_wp2_with fail
            rw [← HW51.out, Hb52.out]
            clear HW51 Hb52
            have H53 := Lib.hid H49.out.drew
            clear H49
            go_wp2_with fail
            refine wp_region_turns (.s 0 (.s 1 (.s 2 (.h 3 (.h 4 (.h 5 (.h 6 .nil))))))) 6 (fun W' => W'.heap[b50]? = some (.cells #[.int .i64 x47.kind, .string x47.text, .int .i64 x47.line, .int .i64 x47.col] 157 (0, 0)) ∧ W'.heap[b11]? = some (.cells #[.int .i64 k0, .string t0, .int .i64 l0, .int .i64 c0, .slice a0 kids0.length cap0] 83 (0, 0))) (by kernel_rfl) (by kernel_rfl) (fun c a d v w h => by cases d <;> exact h) (⟨H53.out.at (by simp), H53.out.at (by simp)⟩) ?_
            refine turn_steady (tokV x47) rfl rfl (fun W' hS => ?_) ?_
            · try unfold tokV
              try unfold ptr
              obtain ⟨hS0, hS1⟩ := hS
              obtain ⟨s00, s01, s02, s03, s04⟩ := four_facts hS0
              clear hS0
              obtain ⟨s10, s11, s12, s13, s14, s15, s16, s17, s18, s19, s110⟩ := five_facts hS1
              clear hS1
              go_simp
            refine turn_steady (.agg #[.int .i64 k0, .string t0, .int .i64 l0, .int .i64 c0, .slice a0 kids0.length cap0]) rfl rfl (fun W' hS => ?_) ?_
            · try unfold tokV
              try unfold ptr
              obtain ⟨hS0, hS1⟩ := hS
              obtain ⟨s00, s01, s02, s03, s04⟩ := four_facts hS0
              clear hS0
              obtain ⟨s10, s11, s12, s13, s14, s15, s16, s17, s18, s19, s110⟩ := five_facts hS1
              clear hS1
              go_simp
            refine turn_steady (ptr bp) rfl rfl (fun W' hS => ?_) ?_
            · try unfold tokV
              try unfold ptr
              obtain ⟨hS0, hS1⟩ := hS
              obtain ⟨s00, s01, s02, s03, s04⟩ := four_facts hS0
              clear hS0
              obtain ⟨s10, s11, s12, s13, s14, s15, s16, s17, s18, s19, s110⟩ := five_facts hS1
              clear hS1
              go_simp
            refine turn_heavy rfl (fun K54 hK54 => ?_)
            try unfold tokV ptr
            go_wp2_with fail
            have hne : (pPrim en L) ts46 (dp) ≠ .out := fun h => Hr.out (Hsp45.out.trans (bind_out h))
            have Hc55 := Lib.hid (Hx.out W48.drew ts46 (dp) H53.out.ps (by omega) (by omega) hne)
            try unfold ptr at Hc55
            clear hne
            refine Hc55.out.mono ?_
            rintro e w56 ⟨hg, hq⟩
            cases hm : (pPrim en L) ts46 (dp) with
            | out => exact absurd (Hsp45.out.trans (bind_out hm)) Hr.out
            | err ex el ec =>
              rw [hm] at hq
              obtain rfl := hq
              have Hf : Hid (pSum en L ts dp = .err ex el ec) := Lib.hid (Hsp45.out.trans (bind_err hm))
              clear hm
              refine ⟨rfl, ?_⟩
              rw [Hf.out]
              exact ⟨grownBy_trans H53.out.grown hg, rfl⟩
            | ok x60 ts59 dq =>
              have hdq : dp = dq := by have := hi _ _ _ _ _ hm; omega
              subst hdq
              rw [hm] at hq
              obtain ⟨x60k, x60t, x60l, x60c, x60s⟩ := x60
              obtain ⟨hps, v, rfl, hv⟩ := hq
              obtain ⟨a61, cap62, rfl, hrow⟩ := NodeV.open hv
              have Hccap62 := Lib.hid (NodeV.cap hv)
              have H57 := Lib.hid ((H53.out.call hg hps).row hrow H53.out.grown.size H53.out.lt)
              clear hv hrow
              have Hsp58 := Lib.hid (Hsp45.out.trans (bind_ok hm))
              clear hm hg hps Hc55 H53 Hsp45
              go_wp2_with fail
              refine hK54 _ _ (fun _ => ⟨H57.out.at (by simp), H57.out.at (by simp)⟩) ?_
              refine turn_heavy rfl (fun K63 hK63 => ?_)
              try unfold tokV ptr
              go_wp2_with fail
              have H64 := Lib.hid (H57.out.lit 83 [[.int .i64 k0, .string t0, .int .i64 l0, .int .i64 c0, .slice a0 kids0.length cap0], [.int .i64 x60k, .string x60t, .int .i64 x60l, .int .i64 x60c, .slice a61 x60s.length cap62]] [.mk k0 t0 l0 c0 kids0, .mk x60k x60t x60l x60c x60s] rfl (by simp) rfl (fun j n c hj hc => by
                have hjl := (List.getElem?_eq_some_iff.1 hc).1
                simp only [List.length_cons, List.length_nil] at hjl
                obtain rfl | rfl : j = 0 ∨ j = 1 := by omega
                · simp at hj hc
                  subst hj hc
                  exact ⟨_, _, _, _, _, _, _, rfl, rfl, .inl (by simp)⟩
                · simp at hj hc
                  subst hj hc
                  exact ⟨_, _, _, _, _, _, _, rfl, rfl, .inl (by simp)⟩))
              clear H57
              refine hK63 _ _ (fun _ => ⟨H64.out.at (by simp), H64.out.at (by simp)⟩) ?_
              refine turn_heavy rfl (fun K65 hK65 => ?_)
              try unfold tokV ptr
              go_wp2_with fail
              have Hnd := Lib.hid (node_any 16 x47 ⟨#[43]⟩ (some ⟨w56.heap.size, 0, none⟩) 2 2 (w56.alloc (.cells #[.int .i64 k0, .string t0, .int .i64 l0, .int .i64 c0, .slice a0 kids0.length cap0, .int .i64 x60k, .string x60t, .int .i64 x60l, .int .i64 x60c, .slice a61 x60s.length cap62] 83)))
              unfold tokV nodeC at Hnd
              refine Hnd.out.mono ?_
              rintro e w66 ⟨rfl, hb⟩
              have H67 := Lib.hid (H64.out.below hb)
              clear hb Hnd H64
              go_wp2_with fail
              refine hK65 _ _ (fun _ => ⟨H67.out.at (by simp), H67.out.at (by simp)⟩) ?_
              obtain ⟨r68, r69, r70, r71, r72, r73, r74, r75, r76, r77, r78⟩ := five_facts (H67.out.at (b := b11) (cs := #[.int .i64 k0, .string t0, .int .i64 l0, .int .i64 c0, .slice a0 kids0.length cap0]) (T := 83) (by simp))
              refine turn_heavy rfl (fun K79 hK79 => ?_)
              try unfold tokV ptr
              go_wp2_with fail
              refine hK79 _ _ (fun h => absurd rfl h) ?_
              refine turn_end ?_
              go_wp2_with fail
              go_roundg g
              case measure => omega
              case rel => exact ⟨_, _, _, _, _, _, _, _, Hsp58, Lib.hid ((H67.out.put5 1 rfl (.int .i64 16) (.string ⟨#[43]⟩) (.int .i64 x47.line) (.int .i64 x47.col) (.slice (some ⟨w56.heap.size, 0, none⟩) 2 2)).less (r2 := [((some ⟨w56.heap.size, 0, none⟩), [.mk k0 t0 l0 c0 kids0, .mk x60k x60t x60l x60c x60s])]) (List.sublist_cons_self _ _) (by simp)), Lib.hid (fun h => absurd h (by decide))⟩

end Go.Proofs.YthknljeffpbbmaaGreatDoor
