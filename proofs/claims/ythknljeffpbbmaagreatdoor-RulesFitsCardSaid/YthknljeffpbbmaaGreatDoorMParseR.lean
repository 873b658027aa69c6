/-
  Walks of the parser: prim. (Printed by parse_gen.py.)
  Walks of the parser: param. (Printed by parse_gen.py.)
  Walks of the parser: rule. (Printed by parse_gen.py.)
-/
import Derived.Test.YthknljeffpbbmaaGreatDoorMParseN
namespace Go.Proofs.YthknljeffpbbmaaGreatDoor
open Go Go.RowKit

set_option maxRecDepth 100000 in
set_option maxHeartbeats 8000000 in
theorem prim_any (bp : Nat) (en : Int × Int) (L : Lvl) (hL : LInc L) (hx : Does 155 bp en VNode L.expr) (hp0 : Does 185 bp en VNode L.prim) (hc : Does 158 bp en VNode (pCall en L)) (he : Does 199 bp en VRow (pEntry en L)) : Does 185 bp en VNode (pPrim en L) := by
  intro w ts dp hp hd0 hd1 hr
  have Hr := Lib.hid hr
  have Hx := Lib.hid hx
  have Hp0 := Lib.hid hp0
  have Hc := Lib.hid hc
  have He := Lib.hid he
  clear hx hp0 hc he
  have hsp : pPrim en L ts dp = (if (tokAt en ts 0).kind == 3 then PM.bind (pTake en true) (fun _ => PM.pure (nodeT 11 (tokAt en ts 0) (tokAt en ts 0).text [])) else if (tokAt en ts 0).kind == 2 then PM.bind (pTake en true) (fun _ => PM.pure (nodeT 10 (tokAt en ts 0) (tokAt en ts 0).text [])) else if isNameT en ts && isSign en ts 1 [40] then pCall en L else if isNameT en ts then PM.bind (pTake en true) (fun _ => PM.pure (nodeT 9 (tokAt en ts 0) (tokAt en ts 0).text [])) else if isWordT en ts [110, 111, 116] then PM.bind (pOpen en true) (fun _ => PM.bind L.prim fun x => PM.bind pDown fun _ => PM.pure (nodeT 16 (tokAt en ts 0) (bs [110, 111, 116]) [x])) else if isSign en ts 0 [91] then PM.bind (pOpen en true) (fun _ => PM.bind (pList en [93] (pOne L.expr)) fun l => PM.bind (pClose en [93]) fun _ => PM.pure (nodeT 12 (tokAt en ts 0) ⟨#[]⟩ l)) else if isSign en ts 0 [123] then PM.bind (pOpen en true) (fun _ => PM.bind (pList en [125] (pEntry en L)) fun l => PM.bind (pClose en [125]) fun _ => PM.pure (nodeT 13 (tokAt en ts 0) ⟨#[]⟩ l)) else PM.bind (pOpen en (isSign en ts 0 [40])) (fun _ => PM.bind L.expr fun x => PM.bind (pClose en [41]) fun _ => PM.pure x)) ts dp := rfl
  have Hsp := Lib.hid hsp
  have H0 := Lib.hid (((PI.start hp).alloc #[.pointer (some ⟨bp, 0, none⟩)] 152).alloc #[.int .i64 0, .string ⟨#[]⟩, .int .i64 0, .int .i64 0, .slice none 0 0] 83)
  have hbx : (w.alloc (.cells #[.pointer (some ⟨bp, 0, none⟩)] 152)).heap.size = w.heap.size + 1 := by simp
  rw [hbx] at H0
  clear hp hr hsp hbx
  unfold ptr
  go_enter Tryz.func185, Tryz.ntmps185
  have Hc1 := Lib.hid (at_any bp 0 en ts (dp) ((w.alloc (.cells #[.pointer (some ⟨bp, 0, none⟩)] 152)).alloc (.cells #[.int .i64 0, .string ⟨#[]⟩, .int .i64 0, .int .i64 0, .slice none 0 0] 83)) (by omega) H0.out.ps)
  try unfold ptr at Hc1
  obtain ⟨r4, r5⟩ := one_facts (H0.out.at (b := w.heap.size) (cs := #[.pointer (some ⟨bp, 0, none⟩)]) (T := 152) (by simp))
  go_wp2_with fail
  clear r4 r5
  refine Hc1.out.mono ?_
  rintro e w2 ⟨rfl, hb⟩
  have H3 := Lib.hid (H0.out.below hb)
  clear hb Hc1 H0
  try unfold tokV
  generalize tokAt en ts 0 = t at Hsp ⊢
  cases h1 : t.kind == 3
  case' true => have E1 := Lib.hid h1
  case' false => have E1 := Lib.hid h1
  · cases h2 : t.kind == 2
    case' true => have E2 := Lib.hid h2
    case' false => have E2 := Lib.hid h2
    · obtain ⟨r11, r12⟩ := one_facts (H3.out.at (b := w.heap.size) (cs := #[.pointer (some ⟨bp, 0, none⟩)]) (T := 152) (by simp))
      have H7 := Lib.hid (H3.out.alloc #[.int .i64 t.kind, .string t.text, .int .i64 t.line, .int .i64 t.col] 157)
      clear H3
      obtain ⟨W6, hW⟩ : ∃ X, X = w2.alloc (.cells #[.int .i64 t.kind, .string t.text, .int .i64 t.line, .int .i64 t.col] 157) := ⟨_, rfl⟩
      rw [← hW] at H7
      have HW9 := Lib.hid hW
      clear hW
      generalize hb : w2.heap.size = b8 at H7
      have Hb10 := Lib.hid hb
      clear hb
      go_wp2_with fail
      rw [← HW9.out, Hb10.out]
      clear HW9 Hb10 r11 r12
      clear h1 h2
      have Hc13 := Lib.hid (name_any bp en ts (dp) W6 H7.out.ps)
      try unfold ptr at Hc13
      refine Hc13.out.mono ?_
      rintro e w14 ⟨rfl, hb⟩
      have H15 := Lib.hid (H7.out.below hb)
      clear hb Hc13 H7
      cases h3 : isNameT en ts
      case' true => have E3 := Lib.hid h3
      case' false => have E3 := Lib.hid h3
      · try rw [h3]
        clear h3
        have Hc16 := Lib.hid (name_any bp en ts (dp) w14 H15.out.ps)
        try unfold ptr at Hc16
        obtain ⟨r19, r20⟩ := one_facts (H15.out.at (b := w.heap.size) (cs := #[.pointer (some ⟨bp, 0, none⟩)]) (T := 152) (by simp))
        go_wp2_with fail
        clear r19 r20
        refine Hc16.out.mono ?_
        rintro e w17 ⟨rfl, hb⟩
        have H18 := Lib.hid (H15.out.below hb)
        clear hb Hc16 H15
        rw [E3.out]
        have Hc21 := Lib.hid (word_any bp ⟨#[110, 111, 116]⟩ en ts (dp) w17 H18.out.ps)
        try unfold ptr at Hc21
        obtain ⟨r24, r25⟩ := one_facts (H18.out.at (b := w.heap.size) (cs := #[.pointer (some ⟨bp, 0, none⟩)]) (T := 152) (by simp))
        go_wp2_with fail
        clear r24 r25
        refine Hc21.out.mono ?_
        rintro e w22 ⟨rfl, hb⟩
        have H23 := Lib.hid (H18.out.below hb)
        clear hb Hc21 H18
        cases h5 : isWordT en ts [110, 111, 116]
        case' true => have E5 := Lib.hid h5
        case' false => have E5 := Lib.hid h5
        · try rw [h5]
          clear h5
          have Hc26 := Lib.hid (sign_any bp 0 ⟨#[91]⟩ en ts (dp) w22 (by omega) H23.out.ps)
          try unfold ptr at Hc26
          obtain ⟨r29, r30⟩ := one_facts (H23.out.at (b := w.heap.size) (cs := #[.pointer (some ⟨bp, 0, none⟩)]) (T := 152) (by simp))
          go_wp2_with fail
          clear r29 r30
          refine Hc26.out.mono ?_
          rintro e w27 ⟨rfl, hb⟩
          have H28 := Lib.hid (H23.out.below hb)
          clear hb Hc26 H23
          cases h6 : isSign en ts 0 [91]
          case' true => have E6 := Lib.hid h6
          case' false => have E6 := Lib.hid h6
          · try rw [h6]
            clear h6
            have Hc31 := Lib.hid (sign_any bp 0 ⟨#[123]⟩ en ts (dp) w27 (by omega) H28.out.ps)
            try unfold ptr at Hc31
            obtain ⟨r34, r35⟩ := one_facts (H28.out.at (b := w.heap.size) (cs := #[.pointer (some ⟨bp, 0, none⟩)]) (T := 152) (by simp))
            go_wp2_with fail
            clear r34 r35
            refine Hc31.out.mono ?_
            rintro e w32 ⟨rfl, hb⟩
            have H33 := Lib.hid (H28.out.below hb)
            clear hb Hc31 H28
            cases h7 : isSign en ts 0 [123]
            case' true => have E7 := Lib.hid h7
            case' false => have E7 := Lib.hid h7
            · try rw [h7]
              clear h7
              have Hsp36 : Hid (pPrim en L ts dp = PM.bind (pOpen en (isSign en ts 0 [40])) (fun _ => PM.bind L.expr fun x => PM.bind (pClose en [41]) fun _ => PM.pure x) ts dp) := Lib.hid (by rw [Hsp.out, E1.out, E2.out, E3.out, E5.out, E6.out, E7.out] <;> rfl)
              clear Hsp
              clear E1 E2 E3 E5 E6 E7
              go_wp2_with fail
              have H37 := Lib.hid H33.out.drew
              clear H33
              go_wp2_with fail
              refine wp_region_turns (.s 0 (.s 1 (.h 2 (.h 3 .nil)))) 3 (fun W' => W'.heap[w.heap.size]? = some (.cells #[.pointer (some ⟨bp, 0, none⟩)] 152 (0, 0))) (by kernel_rfl) (by kernel_rfl) (fun c a d v w h => by cases d <;> exact h) (H37.out.at (by simp)) ?_
              refine turn_steady (.pointer (some ⟨bp, 0, none⟩)) rfl rfl (fun W' hS => ?_) ?_
              · try unfold tokV
                try unfold ptr
                have hS0 := hS
                obtain ⟨s00, s01⟩ := one_facts hS0
                clear hS0
                go_simp
              refine turn_steady (.pointer (some ⟨bp, 0, none⟩)) rfl rfl (fun W' hS => ?_) ?_
              · try unfold tokV
                try unfold ptr
                have hS0 := hS
                obtain ⟨s00, s01⟩ := one_facts hS0
                clear hS0
                go_simp
              refine turn_heavy rfl (fun K38 hK38 => ?_)
              try unfold tokV ptr
              go_wp2_with fail
              have Hc39 := Lib.hid (sign_any bp 0 ⟨#[40]⟩ en ts (dp) w32.drew (by omega) H37.out.ps)
              try unfold ptr at Hc39
              refine Hc39.out.mono ?_
              rintro e w40 ⟨rfl, hb⟩
              have H41 := Lib.hid (H37.out.below hb)
              clear hb Hc39 H37
              go_wp2_with fail
              refine hK38 _ _ (fun _ => H41.out.at (by simp)) ?_
              refine turn_heavy rfl (fun K42 hK42 => ?_)
              try unfold tokV ptr
              go_wp2_with fail
              have hne : (pOpen en (isSign en ts 0 [40])) ts (dp) ≠ .out := fun h => Hr.out (Hsp36.out.trans (bind_out h))
              have Hc43 := Lib.hid (open_any bp (isSign en ts 0 [40]) en ts (dp) w40 (by omega) (by omega) H41.out.ps hne)
              try unfold ptr at Hc43
              clear hne
              refine Hc43.out.mono ?_
              rintro e w44 ⟨hg, hq⟩
              cases hm : (pOpen en (isSign en ts 0 [40])) ts (dp) with
              | out => exact absurd (Hsp36.out.trans (bind_out hm)) Hr.out
              | err ex el ec =>
                rw [hm] at hq
                obtain rfl := hq
                have Hf : Hid (pPrim en L ts dp = .err ex el ec) := Lib.hid (Hsp36.out.trans (bind_err hm))
                clear hm
                refine ⟨rfl, ?_⟩
                rw [Hf.out]
                exact ⟨grownBy_trans H41.out.grown hg, rfl⟩
              | ok x48 ts47 dq =>
                have hlt := open_lt hm
                have hdq : dp + 1 = dq := by have := Inc.open _ _ _ _ _ _ hm; omega
                subst hdq
                rw [hm] at hq
                obtain ⟨hps, v, rfl, rfl⟩ := hq
                have H45 := Lib.hid (H41.out.call hg hps)
                try unfold tokV
                have Hsp46 := Lib.hid (Hsp36.out.trans (bind_ok hm))
                clear hm hg hps Hc43 H41 Hsp36
                go_wp2_with fail
                refine hK42 _ _ (fun h => absurd rfl h) ?_
                refine turn_end ?_
                have hne : (L.expr) ts47 (dp + 1) ≠ .out := fun h => Hr.out (Hsp46.out.trans (bind_out h))
                have Hc49 := Lib.hid (Hx.out w44 ts47 (dp + 1) H45.out.ps (by omega) (by omega) hne)
                try unfold ptr at Hc49
                clear hne
                obtain ⟨r55, r56⟩ := one_facts (H45.out.at (b := w.heap.size) (cs := #[.pointer (some ⟨bp, 0, none⟩)]) (T := 152) (by simp))
                go_wp2_with fail
                clear r55 r56
                refine Hc49.out.mono ?_
                rintro e w50 ⟨hg, hq⟩
                cases hm : (L.expr) ts47 (dp + 1) with
                | out => exact absurd (Hsp46.out.trans (bind_out hm)) Hr.out
                | err ex el ec =>
                  rw [hm] at hq
                  obtain rfl := hq
                  have Hf : Hid (pPrim en L ts dp = .err ex el ec) := Lib.hid (Hsp46.out.trans (bind_err hm))
                  clear hm
                  refine ⟨rfl, ?_⟩
                  rw [Hf.out]
                  exact ⟨grownBy_trans H45.out.grown hg, rfl⟩
                | ok x54 ts53 dq =>
                  have hdq : dp + 1 = dq := by have := hL.expr _ _ _ _ _ hm; omega
                  subst hdq
                  rw [hm] at hq
                  obtain ⟨x54k, x54t, x54l, x54c, x54s⟩ := x54
                  obtain ⟨hps, v, rfl, hv⟩ := hq
                  obtain ⟨a57, cap58, rfl, hrow⟩ := NodeV.open hv
                  have Hccap58 := Lib.hid (NodeV.cap hv)
                  have H51 := Lib.hid ((H45.out.call hg hps).row hrow H45.out.grown.size H45.out.lt)
                  clear hv hrow
                  have Hsp52 := Lib.hid (Hsp46.out.trans (bind_ok hm))
                  clear hm hg hps Hc49 H45 Hsp46
                  obtain ⟨r64, r65⟩ := one_facts (H51.out.at (b := w.heap.size) (cs := #[.pointer (some ⟨bp, 0, none⟩)]) (T := 152) (by simp))
                  have H60 := Lib.hid (H51.out.alloc #[.int .i64 x54k, .string x54t, .int .i64 x54l, .int .i64 x54c, .slice a57 x54s.length cap58] 83)
                  clear H51
                  obtain ⟨W59, hW⟩ : ∃ X, X = w50.alloc (.cells #[.int .i64 x54k, .string x54t, .int .i64 x54l, .int .i64 x54c, .slice a57 x54s.length cap58] 83) := ⟨_, rfl⟩
                  rw [← hW] at H60
                  have HW62 := Lib.hid hW
                  clear hW
                  generalize hb : w50.heap.size = b61 at H60
                  have Hb63 := Lib.hid hb
                  clear hb
                  go_wp2_with fail
                  rw [← HW62.out, Hb63.out]
                  clear HW62 Hb63 r64 r65
                  have hne : (pClose en [41]) ts53 (dp + 1) ≠ .out := fun h => Hr.out (Hsp52.out.trans (bind_out h))
                  have Hc66 := Lib.hid (close_any bp ⟨#[41]⟩ en ts53 (dp + 1) W59 (by omega) (by omega) H60.out.ps hne)
                  try unfold ptr at Hc66
                  clear hne
                  refine Hc66.out.mono ?_
                  rintro e w67 ⟨hg, hq⟩
                  cases hm : (pClose en [41]) ts53 (dp + 1) with
                  | out => exact absurd (Hsp52.out.trans (bind_out hm)) Hr.out
                  | err ex el ec =>
                    rw [hm] at hq
                    obtain rfl := hq
                    have Hf : Hid (pPrim en L ts dp = .err ex el ec) := Lib.hid (Hsp52.out.trans (bind_err hm))
                    clear hm
                    refine ⟨rfl, ?_⟩
                    rw [Hf.out]
                    exact ⟨grownBy_trans H60.out.grown hg, rfl⟩
                  | ok x71 ts70 dq =>
                    have hdq : dp = dq := by have := Inc.close _ _ _ _ _ _ hm; omega
                    subst hdq
                    rw [hm] at hq
                    obtain ⟨hps, v, rfl, -⟩ := hq
                    have H68 := Lib.hid (H60.out.call hg hps)
                    have Hsp69 := Lib.hid (Hsp52.out.trans (bind_ok hm))
                    clear hm hg hps Hc66 H60 Hsp52
                    obtain ⟨r72, r73, r74, r75, r76, r77, r78, r79, r80, r81, r82⟩ := five_facts (H68.out.at (b := b61) (cs := #[.int .i64 x54k, .string x54t, .int .i64 x54l, .int .i64 x54c, .slice a57 x54s.length cap58]) (T := 83) (by simp))
                    obtain ⟨r83, r84, r85, r86, r87, r88, r89, r90, r91, r92, r93⟩ := five_facts (H68.out.at (b := w.heap.size + 1) (cs := #[.int .i64 0, .string ⟨#[]⟩, .int .i64 0, .int .i64 0, .slice none 0 0]) (T := 83) (by simp))
                    go_wp2_with fail
                    refine bodyPost_ret (v := .agg #[.int .i64 x54k, .string x54t, .int .i64 x54l, .int .i64 x54c, .slice a57 x54s.length cap58]) (by simp [results, Tryz.results185, go_sem, r84, r85, r86, r87, r88]) rfl ?_
                    have G := Lib.hid (H68.out.put5 2 rfl (.int .i64 x54k) (.string x54t) (.int .i64 x54l) (.int .i64 x54c) (.slice a57 x54s.length cap58))
                    rw [Hsp69.out]
                    exact ⟨G.out.grown, G.out.ps, _, rfl, NodeV.mk _ _ _ _ _ (G.out.hand (by simp))⟩
            · try rw [h7]
              clear h7
              have Hsp94 : Hid (pPrim en L ts dp = PM.bind (pOpen en true) (fun _ => PM.bind (pList en [125] (pEntry en L)) fun l => PM.bind (pClose en [125]) fun _ => PM.pure (nodeT 13 t ⟨#[]⟩ l)) ts dp) := Lib.hid (by rw [Hsp.out, E1.out, E2.out, E3.out, E5.out, E6.out, E7.out] <;> rfl)
              clear Hsp
              clear E1 E2 E3 E5 E6 E7
              have hne : (pOpen en true) ts (dp) ≠ .out := fun h => Hr.out (Hsp94.out.trans (bind_out h))
              have Hc95 := Lib.hid (open_any bp true en ts (dp) w32 (by omega) (by omega) H33.out.ps hne)
              try unfold ptr at Hc95
              clear hne
              obtain ⟨r101, r102⟩ := one_facts (H33.out.at (b := w.heap.size) (cs := #[.pointer (some ⟨bp, 0, none⟩)]) (T := 152) (by simp))
              go_wp2_with fail
              clear r101 r102
              refine Hc95.out.mono ?_
              rintro e w96 ⟨hg, hq⟩
              cases hm : (pOpen en true) ts (dp) with
              | out => exact absurd (Hsp94.out.trans (bind_out hm)) Hr.out
              | err ex el ec =>
                rw [hm] at hq
                obtain rfl := hq
                have Hf : Hid (pPrim en L ts dp = .err ex el ec) := Lib.hid (Hsp94.out.trans (bind_err hm))
                clear hm
                refine ⟨rfl, ?_⟩
                rw [Hf.out]
                exact ⟨grownBy_trans H33.out.grown hg, rfl⟩
              | ok x100 ts99 dq =>
                have hlt := open_lt hm
                have hdq : dp + 1 = dq := by have := Inc.open _ _ _ _ _ _ hm; omega
                subst hdq
                rw [hm] at hq
                obtain ⟨hps, v, rfl, rfl⟩ := hq
                have H97 := Lib.hid (H33.out.call hg hps)
                try unfold tokV
                have Hsp98 := Lib.hid (Hsp94.out.trans (bind_ok hm))
                clear hm hg hps Hc95 H33 Hsp94
                have hne : (pList en [125] (pEntry en L)) ts99 (dp + 1) ≠ .out := fun h => Hr.out (Hsp98.out.trans (bind_out h))
                have Hc103 := Lib.hid (list_any bp ⟨#[125]⟩ 199 #[.pointer (some ⟨bp, 0, none⟩)] #[] (pEntry en L) en ts99 (dp + 1) w96 (by omega) (by omega) H97.out.ps (by intro args w; rfl) (fun w1 ts1 hg hp' hr' => He.out w1 ts1 (dp + 1) hp' (by omega) (by omega) hr') (Inc.entry hL) entry_len hne)
                try unfold ptr at Hc103
                clear hne
                obtain ⟨r109, r110⟩ := one_facts (H97.out.at (b := w.heap.size) (cs := #[.pointer (some ⟨bp, 0, none⟩)]) (T := 152) (by simp))
                go_wp2_with fail
                clear r109 r110
                refine Hc103.out.mono ?_
                rintro e w104 ⟨hg, hq⟩
                cases hm : (pList en [125] (pEntry en L)) ts99 (dp + 1) with
                | out => exact absurd (Hsp98.out.trans (bind_out hm)) Hr.out
                | err ex el ec =>
                  rw [hm] at hq
                  obtain rfl := hq
                  have Hf : Hid (pPrim en L ts dp = .err ex el ec) := Lib.hid (Hsp98.out.trans (bind_err hm))
                  clear hm
                  refine ⟨rfl, ?_⟩
                  rw [Hf.out]
                  exact ⟨grownBy_trans H97.out.grown hg, rfl⟩
                | ok x108 ts107 dq =>
                  have hdq : dp + 1 = dq := by have := Inc.list (Inc.entry hL) _ _ _ _ _ hm; omega
                  subst hdq
                  rw [hm] at hq
                  obtain ⟨hps, v, rfl, a111, cap112, rfl, hrow⟩ := hq
                  have H105 := Lib.hid ((H97.out.call hg hps).row hrow H97.out.grown.size H97.out.lt)
                  clear hrow
                  have Hsp106 := Lib.hid (Hsp98.out.trans (bind_ok hm))
                  clear hm hg hps Hc103 H97 Hsp98
                  have hne : (pClose en [125]) ts107 (dp + 1) ≠ .out := fun h => Hr.out (Hsp106.out.trans (bind_out h))
                  have Hc113 := Lib.hid (close_any bp ⟨#[125]⟩ en ts107 (dp + 1) w104 (by omega) (by omega) H105.out.ps hne)
                  try unfold ptr at Hc113
                  clear hne
                  obtain ⟨r119, r120⟩ := one_facts (H105.out.at (b := w.heap.size) (cs := #[.pointer (some ⟨bp, 0, none⟩)]) (T := 152) (by simp))
                  go_wp2_with fail
                  clear r119 r120
                  refine Hc113.out.mono ?_
                  rintro e w114 ⟨hg, hq⟩
                  cases hm : (pClose en [125]) ts107 (dp + 1) with
                  | out => exact absurd (Hsp106.out.trans (bind_out hm)) Hr.out
                  | err ex el ec =>
                    rw [hm] at hq
                    obtain rfl := hq
                    have Hf : Hid (pPrim en L ts dp = .err ex el ec) := Lib.hid (Hsp106.out.trans (bind_err hm))
                    clear hm
                    refine ⟨rfl, ?_⟩
                    rw [Hf.out]
                    exact ⟨grownBy_trans H105.out.grown hg, rfl⟩
                  | ok x118 ts117 dq =>
                    have hdq : dp = dq := by have := Inc.close _ _ _ _ _ _ hm; omega
                    subst hdq
                    rw [hm] at hq
                    obtain ⟨hps, v, rfl, -⟩ := hq
                    have H115 := Lib.hid (H105.out.call hg hps)
                    have Hsp116 := Lib.hid (Hsp106.out.trans (bind_ok hm))
                    clear hm hg hps Hc113 H105 Hsp106
                    obtain ⟨r121, r122⟩ := one_facts (H115.out.at (b := w.heap.size) (cs := #[.pointer (some ⟨bp, 0, none⟩)]) (T := 152) (by simp))
                    obtain ⟨r123, r124, r125, r126, r127⟩ := four_facts (H115.out.at (b := b8) (cs := #[.int .i64 t.kind, .string t.text, .int .i64 t.line, .int .i64 t.col]) (T := 157) (by simp))
                    go_wp2_with fail
                    clear r121 r122 r123 r124 r125 r126 r127
                    have Hnd := Lib.hid (node_any 13 t ⟨#[]⟩ a111 x108.length cap112 w114)
                    unfold tokV nodeC at Hnd
                    refine Hnd.out.mono ?_
                    rintro e w128 ⟨rfl, hb⟩
                    have H129 := Lib.hid (H115.out.below hb)
                    clear hb Hnd H115
                    obtain ⟨r130, r131, r132, r133, r134, r135, r136, r137, r138, r139, r140⟩ := five_facts (H129.out.at (b := w.heap.size + 1) (cs := #[.int .i64 0, .string ⟨#[]⟩, .int .i64 0, .int .i64 0, .slice none 0 0]) (T := 83) (by simp))
                    go_wp2_with fail
                    refine bodyPost_ret (v := .agg #[.int .i64 13, .string ⟨#[]⟩, .int .i64 t.line, .int .i64 t.col, .slice a111 x108.length cap112]) (by simp [results, Tryz.results185, go_sem, r131, r132, r133, r134, r135]) rfl ?_
                    have G := Lib.hid (H129.out.put5 1 rfl (.int .i64 13) (.string ⟨#[]⟩) (.int .i64 t.line) (.int .i64 t.col) (.slice a111 x108.length cap112))
                    rw [Hsp116.out]
                    exact ⟨G.out.grown, G.out.ps, _, rfl, NodeV.mk _ _ _ _ _ (G.out.hand (by simp))⟩
          · try rw [h6]
            clear h6
            have Hsp141 : Hid (pPrim en L ts dp = PM.bind (pOpen en true) (fun _ => PM.bind (pList en [93] (pOne L.expr)) fun l => PM.bind (pClose en [93]) fun _ => PM.pure (nodeT 12 t ⟨#[]⟩ l)) ts dp) := Lib.hid (by rw [Hsp.out, E1.out, E2.out, E3.out, E5.out, E6.out] <;> rfl)
            clear Hsp
            clear E1 E2 E3 E5 E6
            have hne : (pOpen en true) ts (dp) ≠ .out := fun h => Hr.out (Hsp141.out.trans (bind_out h))
            have Hc142 := Lib.hid (open_any bp true en ts (dp) w27 (by omega) (by omega) H28.out.ps hne)
            try unfold ptr at Hc142
            clear hne
            obtain ⟨r148, r149⟩ := one_facts (H28.out.at (b := w.heap.size) (cs := #[.pointer (some ⟨bp, 0, none⟩)]) (T := 152) (by simp))
            go_wp2_with fail
            clear r148 r149
            refine Hc142.out.mono ?_
            rintro e w143 ⟨hg, hq⟩
            cases hm : (pOpen en true) ts (dp) with
            | out => exact absurd (Hsp141.out.trans (bind_out hm)) Hr.out
            | err ex el ec =>
              rw [hm] at hq
              obtain rfl := hq
              have Hf : Hid (pPrim en L ts dp = .err ex el ec) := Lib.hid (Hsp141.out.trans (bind_err hm))
              clear hm
              refine ⟨rfl, ?_⟩
              rw [Hf.out]
              exact ⟨grownBy_trans H28.out.grown hg, rfl⟩
            | ok x147 ts146 dq =>
              have hlt := open_lt hm
              have hdq : dp + 1 = dq := by have := Inc.open _ _ _ _ _ _ hm; omega
              subst hdq
              rw [hm] at hq
              obtain ⟨hps, v, rfl, rfl⟩ := hq
              have H144 := Lib.hid (H28.out.call hg hps)
              try unfold tokV
              have Hsp145 := Lib.hid (Hsp141.out.trans (bind_ok hm))
              clear hm hg hps Hc142 H28 Hsp141
              have hne : (pList en [93] (pOne L.expr)) ts146 (dp + 1) ≠ .out := fun h => Hr.out (Hsp145.out.trans (bind_out h))
              have Hc150 := Lib.hid (list_any bp ⟨#[93]⟩ 198 #[] #[.pointer (some ⟨w.heap.size, 0, none⟩)] (pOne (L.expr)) en ts146 (dp + 1) w143 (by omega) (by omega) H144.out.ps (by intro args w; rfl) (fun w1 ts1 hg hp' hr' => prim1_any bp w.heap.size en L hL Hx.out w1 (H144.out.later hg (by simp [ptr])) ts1 (dp + 1) hp' (by omega) (by omega) hr') (Inc.one (hL.expr)) pure_one hne)
              try unfold ptr at Hc150
              clear hne
              obtain ⟨r156, r157⟩ := one_facts (H144.out.at (b := w.heap.size) (cs := #[.pointer (some ⟨bp, 0, none⟩)]) (T := 152) (by simp))
              go_wp2_with fail
              clear r156 r157
              refine Hc150.out.mono ?_
              rintro e w151 ⟨hg, hq⟩
              cases hm : (pList en [93] (pOne L.expr)) ts146 (dp + 1) with
              | out => exact absurd (Hsp145.out.trans (bind_out hm)) Hr.out
              | err ex el ec =>
                rw [hm] at hq
                obtain rfl := hq
                have Hf : Hid (pPrim en L ts dp = .err ex el ec) := Lib.hid (Hsp145.out.trans (bind_err hm))
                clear hm
                refine ⟨rfl, ?_⟩
                rw [Hf.out]
                exact ⟨grownBy_trans H144.out.grown hg, rfl⟩
              | ok x155 ts154 dq =>
                have hdq : dp + 1 = dq := by have := Inc.list (Inc.one hL.expr) _ _ _ _ _ hm; omega
                subst hdq
                rw [hm] at hq
                obtain ⟨hps, v, rfl, a158, cap159, rfl, hrow⟩ := hq
                have H152 := Lib.hid ((H144.out.call hg hps).row hrow H144.out.grown.size H144.out.lt)
                clear hrow
                have Hsp153 := Lib.hid (Hsp145.out.trans (bind_ok hm))
                clear hm hg hps Hc150 H144 Hsp145
                have hne : (pClose en [93]) ts154 (dp + 1) ≠ .out := fun h => Hr.out (Hsp153.out.trans (bind_out h))
                have Hc160 := Lib.hid (close_any bp ⟨#[93]⟩ en ts154 (dp + 1) w151 (by omega) (by omega) H152.out.ps hne)
                try unfold ptr at Hc160
                clear hne
                obtain ⟨r166, r167⟩ := one_facts (H152.out.at (b := w.heap.size) (cs := #[.pointer (some ⟨bp, 0, none⟩)]) (T := 152) (by simp))
                go_wp2_with fail
                clear r166 r167
                refine Hc160.out.mono ?_
                rintro e w161 ⟨hg, hq⟩
                cases hm : (pClose en [93]) ts154 (dp + 1) with
                | out => exact absurd (Hsp153.out.trans (bind_out hm)) Hr.out
                | err ex el ec =>
                  rw [hm] at hq
                  obtain rfl := hq
                  have Hf : Hid (pPrim en L ts dp = .err ex el ec) := Lib.hid (Hsp153.out.trans (bind_err hm))
                  clear hm
                  refine ⟨rfl, ?_⟩
                  rw [Hf.out]
                  exact ⟨grownBy_trans H152.out.grown hg, rfl⟩
                | ok x165 ts164 dq =>
                  have hdq : dp = dq := by have := Inc.close _ _ _ _ _ _ hm; omega
                  subst hdq
                  rw [hm] at hq
                  obtain ⟨hps, v, rfl, -⟩ := hq
                  have H162 := Lib.hid (H152.out.call hg hps)
                  have Hsp163 := Lib.hid (Hsp153.out.trans (bind_ok hm))
                  clear hm hg hps Hc160 H152 Hsp153
                  obtain ⟨r168, r169⟩ := one_facts (H162.out.at (b := w.heap.size) (cs := #[.pointer (some ⟨bp, 0, none⟩)]) (T := 152) (by simp))
                  obtain ⟨r170, r171, r172, r173, r174⟩ := four_facts (H162.out.at (b := b8) (cs := #[.int .i64 t.kind, .string t.text, .int .i64 t.line, .int .i64 t.col]) (T := 157) (by simp))
                  go_wp2_with fail
                  clear r168 r169 r170 r171 r172 r173 r174
                  have Hnd := Lib.hid (node_any 12 t ⟨#[]⟩ a158 x155.length cap159 w161)
                  unfold tokV nodeC at Hnd
                  refine Hnd.out.mono ?_
                  rintro e w175 ⟨rfl, hb⟩
                  have H176 := Lib.hid (H162.out.below hb)
                  clear hb Hnd H162
                  obtain ⟨r177, r178, r179, r180, r181, r182, r183, r184, r185, r186, r187⟩ := five_facts (H176.out.at (b := w.heap.size + 1) (cs := #[.int .i64 0, .string ⟨#[]⟩, .int .i64 0, .int .i64 0, .slice none 0 0]) (T := 83) (by simp))
                  go_wp2_with fail
                  refine bodyPost_ret (v := .agg #[.int .i64 12, .string ⟨#[]⟩, .int .i64 t.line, .int .i64 t.col, .slice a158 x155.length cap159]) (by simp [results, Tryz.results185, go_sem, r178, r179, r180, r181, r182]) rfl ?_
                  have G := Lib.hid (H176.out.put5 1 rfl (.int .i64 12) (.string ⟨#[]⟩) (.int .i64 t.line) (.int .i64 t.col) (.slice a158 x155.length cap159))
                  rw [Hsp163.out]
                  exact ⟨G.out.grown, G.out.ps, _, rfl, NodeV.mk _ _ _ _ _ (G.out.hand (by simp))⟩
        · try rw [h5]
          clear h5
          have Hsp188 : Hid (pPrim en L ts dp = PM.bind (pOpen en true) (fun _ => PM.bind L.prim fun x => PM.bind pDown fun _ => PM.pure (nodeT 16 t (bs [110, 111, 116]) [x])) ts dp) := Lib.hid (by rw [Hsp.out, E1.out, E2.out, E3.out, E5.out] <;> rfl)
          clear Hsp
          clear E1 E2 E3 E5
          have hne : (pOpen en true) ts (dp) ≠ .out := fun h => Hr.out (Hsp188.out.trans (bind_out h))
          have Hc189 := Lib.hid (open_any bp true en ts (dp) w22 (by omega) (by omega) H23.out.ps hne)
          try unfold ptr at Hc189
          clear hne
          obtain ⟨r195, r196⟩ := one_facts (H23.out.at (b := w.heap.size) (cs := #[.pointer (some ⟨bp, 0, none⟩)]) (T := 152) (by simp))
          go_wp2_with fail
          clear r195 r196
          refine Hc189.out.mono ?_
          rintro e w190 ⟨hg, hq⟩
          cases hm : (pOpen en true) ts (dp) with
          | out => exact absurd (Hsp188.out.trans (bind_out hm)) Hr.out
          | err ex el ec =>
            rw [hm] at hq
            obtain rfl := hq
            have Hf : Hid (pPrim en L ts dp = .err ex el ec) := Lib.hid (Hsp188.out.trans (bind_err hm))
            clear hm
            refine ⟨rfl, ?_⟩
            rw [Hf.out]
            exact ⟨grownBy_trans H23.out.grown hg, rfl⟩
          | ok x194 ts193 dq =>
            have hlt := open_lt hm
            have hdq : dp + 1 = dq := by have := Inc.open _ _ _ _ _ _ hm; omega
            subst hdq
            rw [hm] at hq
            obtain ⟨hps, v, rfl, rfl⟩ := hq
            have H191 := Lib.hid (H23.out.call hg hps)
            try unfold tokV
            have Hsp192 := Lib.hid (Hsp188.out.trans (bind_ok hm))
            clear hm hg hps Hc189 H23 Hsp188
            have hne : (L.prim) ts193 (dp + 1) ≠ .out := fun h => Hr.out (Hsp192.out.trans (bind_out h))
            have Hc197 := Lib.hid (Hp0.out w190 ts193 (dp + 1) H191.out.ps (by omega) (by omega) hne)
            try unfold ptr at Hc197
            clear hne
            obtain ⟨r203, r204⟩ := one_facts (H191.out.at (b := w.heap.size) (cs := #[.pointer (some ⟨bp, 0, none⟩)]) (T := 152) (by simp))
            go_wp2_with fail
            clear r203 r204
            refine Hc197.out.mono ?_
            rintro e w198 ⟨hg, hq⟩
            cases hm : (L.prim) ts193 (dp + 1) with
            | out => exact absurd (Hsp192.out.trans (bind_out hm)) Hr.out
            | err ex el ec =>
              rw [hm] at hq
              obtain rfl := hq
              have Hf : Hid (pPrim en L ts dp = .err ex el ec) := Lib.hid (Hsp192.out.trans (bind_err hm))
              clear hm
              refine ⟨rfl, ?_⟩
              rw [Hf.out]
              exact ⟨grownBy_trans H191.out.grown hg, rfl⟩
            | ok x202 ts201 dq =>
              have hdq : dp + 1 = dq := by have := hL.prim _ _ _ _ _ hm; omega
              subst hdq
              rw [hm] at hq
              obtain ⟨x202k, x202t, x202l, x202c, x202s⟩ := x202
              obtain ⟨hps, v, rfl, hv⟩ := hq
              obtain ⟨a205, cap206, rfl, hrow⟩ := NodeV.open hv
              have Hccap206 := Lib.hid (NodeV.cap hv)
              have H199 := Lib.hid ((H191.out.call hg hps).row hrow H191.out.grown.size H191.out.lt)
              clear hv hrow
              have Hsp200 := Lib.hid (Hsp192.out.trans (bind_ok hm))
              clear hm hg hps Hc197 H191 Hsp192
              obtain ⟨r210, r211⟩ := one_facts (H199.out.at (b := w.heap.size) (cs := #[.pointer (some ⟨bp, 0, none⟩)]) (T := 152) (by simp))
              obtain ⟨pa, pcap, hp208, hdn⟩ := H199.out.down
              obtain ⟨q0, q1, q2, q3, q4, q5, q6, q7, q8⟩ := four_wfacts hp208
              have hs1 : dp + 1 - 1 = dp := by omega
              have Hd207 := Lib.hid ((hdn dp).alloc #[.int .i64 x202k, .string x202t, .int .i64 x202l, .int .i64 x202c, .slice a205 x202s.length cap206] 83)
              have hsz : (w198.setCell ⟨bp, 3, none⟩ (.int .i64 dp)).heap.size = w198.heap.size := by simp
              rw [hsz] at Hd207
              clear hdn hsz hp208 H199
              go_upto_region 17 with fail
              generalize hW : (w198.setCell ⟨bp, 3, none⟩ (.int .i64 dp)).alloc (.cells #[.int .i64 x202k, .string x202t, .int .i64 x202l, .int .i64 x202c, .slice a205 x202s.length cap206] 83) = W212 at Hd207 ⊢
              clear hW
              have Hsp213 : Hid (pPrim en L ts dp = PM.pure (nodeT 16 t (bs [110, 111, 116]) [.mk x202k x202t x202l x202c x202s]) ts201 dp) := Lib.hid (by rw [Hsp200.out]; show PM.pure _ _ (dp + 1 - 1) = _; rw [hs1])
              clear Hsp200 hs1 q0 q1 q2 q3 q4 q5 q6 q7 q8 r210 r211
              obtain ⟨r214, r215⟩ := one_facts (Hd207.out.at (b := w.heap.size) (cs := #[.pointer (some ⟨bp, 0, none⟩)]) (T := 152) (by simp))
              obtain ⟨r216, r217, r218, r219, r220⟩ := four_facts (Hd207.out.at (b := b8) (cs := #[.int .i64 t.kind, .string t.text, .int .i64 t.line, .int .i64 t.col]) (T := 157) (by simp))
              obtain ⟨r221, r222, r223, r224, r225, r226, r227, r228, r229, r230, r231⟩ := five_facts (Hd207.out.at (b := w198.heap.size) (cs := #[.int .i64 x202k, .string x202t, .int .i64 x202l, .int .i64 x202c, .slice a205 x202s.length cap206]) (T := 83) (by simp))
              go_wp2_with fail
              clear r214 r215 r216 r217 r218 r219 r220 r221 r222 r223 r224 r225 r226 r227 r228 r229 r230 r231
              have H232 := Lib.hid (Hd207.out.lit 83 [[.int .i64 x202k, .string x202t, .int .i64 x202l, .int .i64 x202c, .slice a205 x202s.length cap206]] [.mk x202k x202t x202l x202c x202s] rfl (by simp) rfl (fun j n c hj hc => by
                have hjl := (List.getElem?_eq_some_iff.1 hc).1
                simp only [List.length_cons, List.length_nil] at hjl
                obtain rfl : j = 0 := by omega
                · simp at hj hc
                  subst hj hc
                  exact ⟨_, _, _, _, _, _, _, rfl, rfl, .inl (by simp)⟩))
              clear Hd207
              have Hnd := Lib.hid (node_any 16 t ⟨#[110, 111, 116]⟩ (some ⟨W212.heap.size, 0, none⟩) 1 1 (W212.alloc (.cells #[.int .i64 x202k, .string x202t, .int .i64 x202l, .int .i64 x202c, .slice a205 x202s.length cap206] 83)))
              unfold tokV nodeC at Hnd
              refine Hnd.out.mono ?_
              rintro e w233 ⟨rfl, hb⟩
              have H234 := Lib.hid (H232.out.below hb)
              clear hb Hnd H232
              obtain ⟨r235, r236, r237, r238, r239, r240, r241, r242, r243, r244, r245⟩ := five_facts (H234.out.at (b := w.heap.size + 1) (cs := #[.int .i64 0, .string ⟨#[]⟩, .int .i64 0, .int .i64 0, .slice none 0 0]) (T := 83) (by simp))
              go_wp2_with fail
              refine bodyPost_ret (v := .agg #[.int .i64 16, .string ⟨#[110, 111, 116]⟩, .int .i64 t.line, .int .i64 t.col, .slice (some ⟨W212.heap.size, 0, none⟩) 1 1]) (by simp [results, Tryz.results185, go_sem, r236, r237, r238, r239, r240]) rfl ?_
              have G := Lib.hid (H234.out.put5 2 rfl (.int .i64 16) (.string ⟨#[110, 111, 116]⟩) (.int .i64 t.line) (.int .i64 t.col) (.slice (some ⟨W212.heap.size, 0, none⟩) 1 1))
              rw [Hsp213.out]
              exact ⟨G.out.grown, G.out.ps, _, rfl, NodeV.mk _ _ _ _ _ (G.out.hand (by simp))⟩
      · try rw [h3]
        clear h3
        have Hc246 := Lib.hid (sign_any bp 1 ⟨#[40]⟩ en ts (dp) w14 (by omega) H15.out.ps)
        try unfold ptr at Hc246
        obtain ⟨r249, r250⟩ := one_facts (H15.out.at (b := w.heap.size) (cs := #[.pointer (some ⟨bp, 0, none⟩)]) (T := 152) (by simp))
        go_wp2_with fail
        clear r249 r250
        refine Hc246.out.mono ?_
        rintro e w247 ⟨rfl, hb⟩
        have H248 := Lib.hid (H15.out.below hb)
        clear hb Hc246 H15
        cases h4 : isSign en ts 1 [40]
        case' true => have E4 := Lib.hid h4
        case' false => have E4 := Lib.hid h4
        · try rw [h4]
          clear h4
          have Hc251 := Lib.hid (name_any bp en ts (dp) w247 H248.out.ps)
          try unfold ptr at Hc251
          obtain ⟨r254, r255⟩ := one_facts (H248.out.at (b := w.heap.size) (cs := #[.pointer (some ⟨bp, 0, none⟩)]) (T := 152) (by simp))
          go_wp2_with fail
          clear r254 r255
          refine Hc251.out.mono ?_
          rintro e w252 ⟨rfl, hb⟩
          have H253 := Lib.hid (H248.out.below hb)
          clear hb Hc251 H248
          rw [E3.out]
          have Hsp256 : Hid (pPrim en L ts dp = PM.bind (pTake en true) (fun _ => PM.pure (nodeT 9 t t.text [])) ts dp) := Lib.hid (by rw [Hsp.out, E1.out, E2.out, E3.out, E4.out] <;> rfl)
          clear Hsp E1 E2 E3 E4
          have hne : (pTake en true) ts (dp) ≠ .out := fun h => Hr.out (Hsp256.out.trans (bind_out h))
          have Hc257 := Lib.hid (take_any bp true en ts (dp) w252 H253.out.ps hne)
          try unfold ptr at Hc257
          clear hne
          obtain ⟨r263, r264⟩ := one_facts (H253.out.at (b := w.heap.size) (cs := #[.pointer (some ⟨bp, 0, none⟩)]) (T := 152) (by simp))
          go_wp2_with fail
          clear r263 r264
          refine Hc257.out.mono ?_
          rintro e w258 ⟨hg, hq⟩
          cases hm : (pTake en true) ts (dp) with
          | out => exact absurd (Hsp256.out.trans (bind_out hm)) Hr.out
          | err ex el ec =>
            rw [hm] at hq
            obtain rfl := hq
            have Hf : Hid (pPrim en L ts dp = .err ex el ec) := Lib.hid (Hsp256.out.trans (bind_err hm))
            clear hm
            refine ⟨rfl, ?_⟩
            rw [Hf.out]
            exact ⟨grownBy_trans H253.out.grown hg, rfl⟩
          | ok x262 ts261 dq =>
            have hdq : dp = dq := by have := Inc.take _ _ _ _ _ _ hm; omega
            subst hdq
            rw [hm] at hq
            obtain ⟨hps, v, rfl, -⟩ := hq
            have H259 := Lib.hid (H253.out.call hg hps)
            have Hsp260 := Lib.hid (Hsp256.out.trans (bind_ok hm))
            clear hm hg hps Hc257 H253 Hsp256
            obtain ⟨r265, r266⟩ := one_facts (H259.out.at (b := w.heap.size) (cs := #[.pointer (some ⟨bp, 0, none⟩)]) (T := 152) (by simp))
            obtain ⟨r267, r268, r269, r270, r271⟩ := four_facts (H259.out.at (b := b8) (cs := #[.int .i64 t.kind, .string t.text, .int .i64 t.line, .int .i64 t.col]) (T := 157) (by simp))
            go_wp2_with fail
            clear r265 r266 r267 r268 r269 r270 r271
            have Hnd := Lib.hid (node_any 9 t t.text none 0 0 w258)
            unfold tokV nodeC at Hnd
            refine Hnd.out.mono ?_
            rintro e w272 ⟨rfl, hb⟩
            have H273 := Lib.hid (H259.out.below hb)
            clear hb Hnd H259
            obtain ⟨r274, r275, r276, r277, r278, r279, r280, r281, r282, r283, r284⟩ := five_facts (H273.out.at (b := w.heap.size + 1) (cs := #[.int .i64 0, .string ⟨#[]⟩, .int .i64 0, .int .i64 0, .slice none 0 0]) (T := 83) (by simp))
            go_wp2_with fail
            refine bodyPost_ret (v := .agg #[.int .i64 9, .string t.text, .int .i64 t.line, .int .i64 t.col, .slice none 0 0]) (by simp [results, Tryz.results185, go_sem, r275, r276, r277, r278, r279]) rfl ?_
            have G := Lib.hid (H273.out.put5 1 rfl (.int .i64 9) (.string t.text) (.int .i64 t.line) (.int .i64 t.col) (.slice none 0 0))
            rw [Hsp260.out]
            exact ⟨G.out.grown, G.out.ps, _, rfl, NodeV.mk _ _ _ _ _ (RowAt.nil _)⟩
        · try rw [h4]
          clear h4
          have Hsp285 : Hid (pPrim en L ts dp = PM.bind (pCall en L) (fun x => PM.pure x) ts dp) := Lib.hid ((by rw [Hsp.out, E1.out, E2.out, E3.out, E4.out] <;> rfl : pPrim en L ts dp = pCall en L ts dp).trans (bind_pure _ _ _))
          clear Hsp E1 E2 E3 E4
          have hne : (pCall en L) ts (dp) ≠ .out := fun h => Hr.out (Hsp285.out.trans (bind_out h))
          have Hc286 := Lib.hid (Hc.out w247 ts (dp) H248.out.ps (by omega) (by omega) hne)
          try unfold ptr at Hc286
          clear hne
          obtain ⟨r292, r293⟩ := one_facts (H248.out.at (b := w.heap.size) (cs := #[.pointer (some ⟨bp, 0, none⟩)]) (T := 152) (by simp))
          go_wp2_with fail
          clear r292 r293
          refine Hc286.out.mono ?_
          rintro e w287 ⟨hg, hq⟩
          cases hm : (pCall en L) ts (dp) with
          | out => exact absurd (Hsp285.out.trans (bind_out hm)) Hr.out
          | err ex el ec =>
            rw [hm] at hq
            obtain rfl := hq
            have Hf : Hid (pPrim en L ts dp = .err ex el ec) := Lib.hid (Hsp285.out.trans (bind_err hm))
            clear hm
            refine ⟨rfl, ?_⟩
            rw [Hf.out]
            exact ⟨grownBy_trans H248.out.grown hg, rfl⟩
          | ok x291 ts290 dq =>
            have hdq : dp = dq := by have := Inc.call hL _ _ _ _ _ hm; omega
            subst hdq
            rw [hm] at hq
            obtain ⟨x291k, x291t, x291l, x291c, x291s⟩ := x291
            obtain ⟨hps, v, rfl, hv⟩ := hq
            obtain ⟨a294, cap295, rfl, hrow⟩ := NodeV.open hv
            have Hccap295 := Lib.hid (NodeV.cap hv)
            have H288 := Lib.hid ((H248.out.call hg hps).row hrow H248.out.grown.size H248.out.lt)
            clear hv hrow
            have Hsp289 := Lib.hid (Hsp285.out.trans (bind_ok hm))
            clear hm hg hps Hc286 H248 Hsp285
            obtain ⟨r296, r297, r298, r299, r300, r301, r302, r303, r304, r305, r306⟩ := five_facts (H288.out.at (b := w.heap.size + 1) (cs := #[.int .i64 0, .string ⟨#[]⟩, .int .i64 0, .int .i64 0, .slice none 0 0]) (T := 83) (by simp))
            go_wp2_with fail
            refine bodyPost_ret (v := .agg #[.int .i64 x291k, .string x291t, .int .i64 x291l, .int .i64 x291c, .slice a294 x291s.length cap295]) (by simp [results, Tryz.results185, go_sem, r297, r298, r299, r300, r301]) rfl ?_
            have G := Lib.hid (H288.out.put5 1 rfl (.int .i64 x291k) (.string x291t) (.int .i64 x291l) (.int .i64 x291c) (.slice a294 x291s.length cap295))
            rw [Hsp289.out]
            exact ⟨G.out.grown, G.out.ps, _, rfl, NodeV.mk _ _ _ _ _ (G.out.hand (by simp))⟩
    · obtain ⟨r312, r313⟩ := one_facts (H3.out.at (b := w.heap.size) (cs := #[.pointer (some ⟨bp, 0, none⟩)]) (T := 152) (by simp))
      have H308 := Lib.hid (H3.out.alloc #[.int .i64 t.kind, .string t.text, .int .i64 t.line, .int .i64 t.col] 157)
      clear H3
      obtain ⟨W307, hW⟩ : ∃ X, X = w2.alloc (.cells #[.int .i64 t.kind, .string t.text, .int .i64 t.line, .int .i64 t.col] 157) := ⟨_, rfl⟩
      rw [← hW] at H308
      have HW310 := Lib.hid hW
      clear hW
      generalize hb : w2.heap.size = b309 at H308
      have Hb311 := Lib.hid hb
      clear hb
      go_wp2_with fail
      rw [← HW310.out, Hb311.out]
      clear HW310 Hb311 r312 r313
      clear h2
      have Hsp314 : Hid (pPrim en L ts dp = PM.bind (pTake en true) (fun _ => PM.pure (nodeT 10 t t.text [])) ts dp) := Lib.hid (by rw [Hsp.out, E1.out, E2.out] <;> rfl)
      clear Hsp
      clear E1 E2
      have hne : (pTake en true) ts (dp) ≠ .out := fun h => Hr.out (Hsp314.out.trans (bind_out h))
      have Hc315 := Lib.hid (take_any bp true en ts (dp) W307 H308.out.ps hne)
      try unfold ptr at Hc315
      clear hne
      refine Hc315.out.mono ?_
      rintro e w316 ⟨hg, hq⟩
      cases hm : (pTake en true) ts (dp) with
      | out => exact absurd (Hsp314.out.trans (bind_out hm)) Hr.out
      | err ex el ec =>
        rw [hm] at hq
        obtain rfl := hq
        have Hf : Hid (pPrim en L ts dp = .err ex el ec) := Lib.hid (Hsp314.out.trans (bind_err hm))
        clear hm
        refine ⟨rfl, ?_⟩
        rw [Hf.out]
        exact ⟨grownBy_trans H308.out.grown hg, rfl⟩
      | ok x320 ts319 dq =>
        have hdq : dp = dq := by have := Inc.take _ _ _ _ _ _ hm; omega
        subst hdq
        rw [hm] at hq
        obtain ⟨hps, v, rfl, -⟩ := hq
        have H317 := Lib.hid (H308.out.call hg hps)
        have Hsp318 := Lib.hid (Hsp314.out.trans (bind_ok hm))
        clear hm hg hps Hc315 H308 Hsp314
        obtain ⟨r321, r322⟩ := one_facts (H317.out.at (b := w.heap.size) (cs := #[.pointer (some ⟨bp, 0, none⟩)]) (T := 152) (by simp))
        obtain ⟨r323, r324, r325, r326, r327⟩ := four_facts (H317.out.at (b := b309) (cs := #[.int .i64 t.kind, .string t.text, .int .i64 t.line, .int .i64 t.col]) (T := 157) (by simp))
        go_wp2_with fail
        clear r321 r322 r323 r324 r325 r326 r327
        have Hnd := Lib.hid (node_any 10 t t.text none 0 0 w316)
        unfold tokV nodeC at Hnd
        refine Hnd.out.mono ?_
        rintro e w328 ⟨rfl, hb⟩
        have H329 := Lib.hid (H317.out.below hb)
        clear hb Hnd H317
        obtain ⟨r330, r331, r332, r333, r334, r335, r336, r337, r338, r339, r340⟩ := five_facts (H329.out.at (b := w.heap.size + 1) (cs := #[.int .i64 0, .string ⟨#[]⟩, .int .i64 0, .int .i64 0, .slice none 0 0]) (T := 83) (by simp))
        go_wp2_with fail
        refine bodyPost_ret (v := .agg #[.int .i64 10, .string t.text, .int .i64 t.line, .int .i64 t.col, .slice none 0 0]) (by simp [results, Tryz.results185, go_sem, r331, r332, r333, r334, r335]) rfl ?_
        have G := Lib.hid (H329.out.put5 1 rfl (.int .i64 10) (.string t.text) (.int .i64 t.line) (.int .i64 t.col) (.slice none 0 0))
        rw [Hsp318.out]
        exact ⟨G.out.grown, G.out.ps, _, rfl, NodeV.mk _ _ _ _ _ (RowAt.nil _)⟩
  · obtain ⟨r346, r347⟩ := one_facts (H3.out.at (b := w.heap.size) (cs := #[.pointer (some ⟨bp, 0, none⟩)]) (T := 152) (by simp))
    have H342 := Lib.hid (H3.out.alloc #[.int .i64 t.kind, .string t.text, .int .i64 t.line, .int .i64 t.col] 157)
    clear H3
    obtain ⟨W341, hW⟩ : ∃ X, X = w2.alloc (.cells #[.int .i64 t.kind, .string t.text, .int .i64 t.line, .int .i64 t.col] 157) := ⟨_, rfl⟩
    rw [← hW] at H342
    have HW344 := Lib.hid hW
    clear hW
    generalize hb : w2.heap.size = b343 at H342
    have Hb345 := Lib.hid hb
    clear hb
    go_wp2_with fail
    rw [← HW344.out, Hb345.out]
    clear HW344 Hb345 r346 r347
    clear h1
    have Hsp348 : Hid (pPrim en L ts dp = PM.bind (pTake en true) (fun _ => PM.pure (nodeT 11 t t.text [])) ts dp) := Lib.hid (by rw [Hsp.out, E1.out] <;> rfl)
    clear Hsp
    clear E1
    have hne : (pTake en true) ts (dp) ≠ .out := fun h => Hr.out (Hsp348.out.trans (bind_out h))
    have Hc349 := Lib.hid (take_any bp true en ts (dp) W341 H342.out.ps hne)
    try unfold ptr at Hc349
    clear hne
    refine Hc349.out.mono ?_
    rintro e w350 ⟨hg, hq⟩
    cases hm : (pTake en true) ts (dp) with
    | out => exact absurd (Hsp348.out.trans (bind_out hm)) Hr.out
    | err ex el ec =>
      rw [hm] at hq
      obtain rfl := hq
      have Hf : Hid (pPrim en L ts dp = .err ex el ec) := Lib.hid (Hsp348.out.trans (bind_err hm))
      clear hm
      refine ⟨rfl, ?_⟩
      rw [Hf.out]
      exact ⟨grownBy_trans H342.out.grown hg, rfl⟩
    | ok x354 ts353 dq =>
      have hdq : dp = dq := by have := Inc.take _ _ _ _ _ _ hm; omega
      subst hdq
      rw [hm] at hq
      obtain ⟨hps, v, rfl, -⟩ := hq
      have H351 := Lib.hid (H342.out.call hg hps)
      have Hsp352 := Lib.hid (Hsp348.out.trans (bind_ok hm))
      clear hm hg hps Hc349 H342 Hsp348
      obtain ⟨r355, r356⟩ := one_facts (H351.out.at (b := w.heap.size) (cs := #[.pointer (some ⟨bp, 0, none⟩)]) (T := 152) (by simp))
      obtain ⟨r357, r358, r359, r360, r361⟩ := four_facts (H351.out.at (b := b343) (cs := #[.int .i64 t.kind, .string t.text, .int .i64 t.line, .int .i64 t.col]) (T := 157) (by simp))
      go_wp2_with fail
      clear r355 r356 r357 r358 r359 r360 r361
      have Hnd := Lib.hid (node_any 11 t t.text none 0 0 w350)
      unfold tokV nodeC at Hnd
      refine Hnd.out.mono ?_
      rintro e w362 ⟨rfl, hb⟩
      have H363 := Lib.hid (H351.out.below hb)
      clear hb Hnd H351
      obtain ⟨r364, r365, r366, r367, r368, r369, r370, r371, r372, r373, r374⟩ := five_facts (H363.out.at (b := w.heap.size + 1) (cs := #[.int .i64 0, .string ⟨#[]⟩, .int .i64 0, .int .i64 0, .slice none 0 0]) (T := 83) (by simp))
      go_wp2_with fail
      refine bodyPost_ret (v := .agg #[.int .i64 11, .string t.text, .int .i64 t.line, .int .i64 t.col, .slice none 0 0]) (by simp [results, Tryz.results185, go_sem, r365, r366, r367, r368, r369]) rfl ?_
      have G := Lib.hid (H363.out.put5 1 rfl (.int .i64 11) (.string t.text) (.int .i64 t.line) (.int .i64 t.col) (.slice none 0 0))
      rw [Hsp352.out]
      exact ⟨G.out.grown, G.out.ps, _, rfl, NodeV.mk _ _ _ _ _ (RowAt.nil _)⟩

end Go.Proofs.YthknljeffpbbmaaGreatDoor
namespace Go.Proofs.YthknljeffpbbmaaGreatDoor
open Go Go.RowKit

set_option maxRecDepth 100000 in
set_option maxHeartbeats 8000000 in
theorem param_any (bp : Nat) (en : Int × Int) (L : Lvl) (hL : LInc L) (hx : Does 155 bp en VNode (pExpr en L)) : Does 175 bp en VNode (pParam en L) := by
  intro w ts dp hp hd0 hd1 hr
  have Hr := Lib.hid hr
  have Hx := Lib.hid hx
  clear hx
  have hsp : pParam en L ts dp = PM.bind (pTake en (isNameT en ts)) (fun name => PM.bind (pEat en [58]) fun _ => pLook fun ts => PM.bind (pTake en ((tokAt en ts 0).kind == 1 && typesL.contains (tokAt en ts 0).text.data.toList)) (fun t => pLook fun ts => if isSign en ts 0 [61] then PM.bind (pEat en [61]) fun _ => PM.bind (pExpr en L) fun x => PM.pure (nodeT 7 name name.text [nodeT 9 t t.text [], x]) else PM.pure (nodeT 7 name name.text [nodeT 9 t t.text []]))) ts dp := rfl
  have Hsp := Lib.hid hsp
  have H0 := Lib.hid ((PI.start hp).alloc #[.int .i64 0, .string ⟨#[]⟩, .int .i64 0, .int .i64 0, .slice none 0 0] 83)
  clear hp hr hsp
  unfold ptr
  go_enter Tryz.func175, Tryz.ntmps175
  go_wp2_with fail
  have Hc1 := Lib.hid (name_any bp en ts (dp) (w.alloc (.cells #[.int .i64 0, .string ⟨#[]⟩, .int .i64 0, .int .i64 0, .slice none 0 0] 83)) H0.out.ps)
  try unfold ptr at Hc1
  refine Hc1.out.mono ?_
  rintro e w2 ⟨rfl, hb⟩
  have H3 := Lib.hid (H0.out.below hb)
  clear hb Hc1 H0
  have hne : (pTake en (isNameT en ts)) ts (dp) ≠ .out := fun h => Hr.out (Hsp.out.trans (bind_out h))
  have Hc4 := Lib.hid (take_any bp (isNameT en ts) en ts (dp) w2 H3.out.ps hne)
  try unfold ptr at Hc4
  clear hne
  go_wp2_with fail
  refine Hc4.out.mono ?_
  rintro e w5 ⟨hg, hq⟩
  cases hm : (pTake en (isNameT en ts)) ts (dp) with
  | out => exact absurd (Hsp.out.trans (bind_out hm)) Hr.out
  | err ex el ec =>
    rw [hm] at hq
    obtain rfl := hq
    have Hf : Hid (pParam en L ts dp = .err ex el ec) := Lib.hid (Hsp.out.trans (bind_err hm))
    clear hm
    refine ⟨rfl, ?_⟩
    rw [Hf.out]
    exact ⟨grownBy_trans H3.out.grown hg, rfl⟩
  | ok x9 ts8 dq =>
    have hdq : dp = dq := by have := Inc.take _ _ _ _ _ _ hm; omega
    subst hdq
    rw [hm] at hq
    obtain ⟨hps, v, rfl, rfl⟩ := hq
    have H6 := Lib.hid (H3.out.call hg hps)
    try unfold tokV
    have Hsp7 := Lib.hid (Hsp.out.trans (bind_ok hm))
    clear hm hg hps Hc4 H3 Hsp
    have H11 := Lib.hid (H6.out.alloc #[.int .i64 x9.kind, .string x9.text, .int .i64 x9.line, .int .i64 x9.col] 157)
    clear H6
    obtain ⟨W10, hW⟩ : ∃ X, X = w5.alloc (.cells #[.int .i64 x9.kind, .string x9.text, .int .i64 x9.line, .int .i64 x9.col] 157) := ⟨_, rfl⟩
    rw [← hW] at H11
    have HW13 := Lib.hid hW
    clear hW
    generalize hb : w5.heap.size = b12 at H11
    have Hb14 := Lib.hid hb
    clear hb
    go_wp2_with fail
    rw [← HW13.out, Hb14.out]
    clear HW13 Hb14
    have hne : (pEat en [58]) ts8 (dp) ≠ .out := fun h => Hr.out (Hsp7.out.trans (bind_out h))
    have Hc15 := Lib.hid (eat_any bp ⟨#[58]⟩ en ts8 (dp) W10 H11.out.ps hne)
    try unfold ptr at Hc15
    clear hne
    refine Hc15.out.mono ?_
    rintro e w16 ⟨hg, hq⟩
    cases hm : (pEat en [58]) ts8 (dp) with
    | out => exact absurd (Hsp7.out.trans (bind_out hm)) Hr.out
    | err ex el ec =>
      rw [hm] at hq
      obtain rfl := hq
      have Hf : Hid (pParam en L ts dp = .err ex el ec) := Lib.hid (Hsp7.out.trans (bind_err hm))
      clear hm
      refine ⟨rfl, ?_⟩
      rw [Hf.out]
      exact ⟨grownBy_trans H11.out.grown hg, rfl⟩
    | ok x20 ts19 dq =>
      have hdq : dp = dq := by have := Inc.eat _ _ _ _ _ _ hm; omega
      subst hdq
      rw [hm] at hq
      obtain ⟨hps, v, rfl, -⟩ := hq
      have H17 := Lib.hid (H11.out.call hg hps)
      have Hsp18 := Lib.hid (Hsp7.out.trans (bind_ok hm))
      clear hm hg hps Hc15 H11 Hsp7
      have Hsp21 : Hid (pParam en L ts dp = PM.bind (pTake en ((tokAt en ts19 0).kind == 1 && typesL.contains (tokAt en ts19 0).text.data.toList)) (fun t => pLook fun ts => if isSign en ts 0 [61] then PM.bind (pEat en [61]) fun _ => PM.bind (pExpr en L) fun x => PM.pure (nodeT 7 x9 x9.text [nodeT 9 t t.text [], x]) else PM.pure (nodeT 7 x9 x9.text [nodeT 9 t t.text []])) ts19 dp) := Lib.hid (by rw [Hsp18.out] <;> rfl)
      clear Hsp18
      have Hc22 := Lib.hid (at_any bp 0 en ts19 (dp) w16 (by omega) H17.out.ps)
      try unfold ptr at Hc22
      go_wp2_with fail
      refine Hc22.out.mono ?_
      rintro e w23 ⟨rfl, hb⟩
      have H24 := Lib.hid (H17.out.below hb)
      clear hb Hc22 H17
      try unfold tokV
      generalize ht0 : tokAt en ts19 0 = t0 at Hsp21 ⊢
      have Ht0 := Lib.hid ht0
      clear ht0
      have k0 := tok_kind
      have k1 := tok_text
      cases hk : t0.kind == 1
      · have Hsp25 : Hid (pParam en L ts dp = PM.bind (pTake en false) (fun t => pLook fun ts => if isSign en ts 0 [61] then PM.bind (pEat en [61]) fun _ => PM.bind (pExpr en L) fun x => PM.pure (nodeT 7 x9 x9.text [nodeT 9 t t.text [], x]) else PM.pure (nodeT 7 x9 x9.text [nodeT 9 t t.text []])) ts19 dp) := Lib.hid (by rw [Hsp21.out, hk, Bool.false_and] <;> rfl)
        clear Hsp21
        have Hc26 := Lib.hid (take_any bp false en ts19 (dp) w23 H24.out.ps (by intro h; cases h))
        try unfold ptr at Hc26
        go_wp2_with fail
        refine Hc26.out.mono ?_
        rintro e w27 ⟨hg, hq⟩
        have Hf : Hid (pParam en L ts dp = .err 3 (tokAt en ts19 0).line (tokAt en ts19 0).col) := Lib.hid (by rw [Hsp25.out] <;> rfl)
        obtain rfl : e = _ := hq
        refine ⟨rfl, ?_⟩
        rw [Hf.out]
        exact ⟨grownBy_trans H24.out.grown hg, rfl⟩
      · have Hk := Lib.hid hk
        have Hc28 := Lib.hid (at_any bp 0 en ts19 (dp) w23 (by omega) H24.out.ps)
        try unfold ptr at Hc28
        rw [Ht0.out] at Hc28
        go_wp2_with fail
        refine Hc28.out.mono ?_
        rintro e w29 ⟨rfl, hb⟩
        have H30 := Lib.hid (H24.out.below hb)
        clear hb Hc28 H24
        try unfold tokV
        have Hc31 := Lib.hid (isType_any t0.text w29)
        try unfold ptr at Hc31
        go_wp2_with fail
        refine Hc31.out.mono ?_
        rintro e w32 ⟨rfl, hb⟩
        have H33 := Lib.hid (H30.out.below hb)
        clear hb Hc31 H30
        have Hsp34 : Hid (pParam en L ts dp = PM.bind (pTake en (typesL.contains t0.text.data.toList)) (fun t => pLook fun ts => if isSign en ts 0 [61] then PM.bind (pEat en [61]) fun _ => PM.bind (pExpr en L) fun x => PM.pure (nodeT 7 x9 x9.text [nodeT 9 t t.text [], x]) else PM.pure (nodeT 7 x9 x9.text [nodeT 9 t t.text []])) ts19 dp) := Lib.hid (by rw [Hsp21.out, Hk.out, Bool.true_and] <;> rfl)
        clear Hsp21
        generalize typesL.contains t0.text.data.toList = ty at Hsp34 ⊢
        have hne : (pTake en ty) ts19 (dp) ≠ .out := fun h => Hr.out (Hsp34.out.trans (bind_out h))
        have Hc35 := Lib.hid (take_any bp ty en ts19 (dp) w32 H33.out.ps hne)
        try unfold ptr at Hc35
        clear hne
        go_wp2_with fail
        refine Hc35.out.mono ?_
        rintro e w36 ⟨hg, hq⟩
        cases hm : (pTake en ty) ts19 (dp) with
        | out => exact absurd (Hsp34.out.trans (bind_out hm)) Hr.out
        | err ex el ec =>
          rw [hm] at hq
          obtain rfl := hq
          have Hf : Hid (pParam en L ts dp = .err ex el ec) := Lib.hid (Hsp34.out.trans (bind_err hm))
          clear hm
          refine ⟨rfl, ?_⟩
          rw [Hf.out]
          exact ⟨grownBy_trans H33.out.grown hg, rfl⟩
        | ok x40 ts39 dq =>
          have hdq : dp = dq := by have := Inc.take _ _ _ _ _ _ hm; omega
          subst hdq
          rw [hm] at hq
          obtain ⟨hps, v, rfl, rfl⟩ := hq
          have H37 := Lib.hid (H33.out.call hg hps)
          try unfold tokV
          have Hsp38 := Lib.hid (Hsp34.out.trans (bind_ok hm))
          clear hm hg hps Hc35 H33 Hsp34
          clear k0 k1 hk Hk
          have H42 := Lib.hid (H37.out.alloc #[.int .i64 x40.kind, .string x40.text, .int .i64 x40.line, .int .i64 x40.col] 157)
          clear H37
          obtain ⟨W41, hW⟩ : ∃ X, X = w36.alloc (.cells #[.int .i64 x40.kind, .string x40.text, .int .i64 x40.line, .int .i64 x40.col] 157) := ⟨_, rfl⟩
          rw [← hW] at H42
          have HW44 := Lib.hid hW
          clear hW
          generalize hb : w36.heap.size = b43 at H42
          have Hb45 := Lib.hid hb
          clear hb
          go_wp2_with fail
          rw [← HW44.out, Hb45.out]
          clear HW44 Hb45
          cases hs : isSign en ts39 0 [61]
          · have Hsp46 : Hid (pParam en L ts dp = PM.pure (nodeT 7 x9 x9.text [nodeT 9 x40 x40.text []]) ts39 dp) := Lib.hid (by rw [Hsp38.out]; show (if isSign en ts39 0 [61] = true then (_ : PM Nd) else _) ts39 dp = _; rw [hs] <;> rfl)
            have Hs := Lib.hid hs
            clear hs Hsp38
            obtain ⟨r47, r48, r49, r50, r51⟩ := four_facts (H42.out.at (b := b43) (cs := #[.int .i64 x40.kind, .string x40.text, .int .i64 x40.line, .int .i64 x40.col]) (T := 157) (by simp))
            go_wp2_with fail
            clear r47 r48 r49 r50 r51
            have Hnd := Lib.hid (node_any 9 x40 x40.text none 0 0 W41)
            unfold tokV nodeC at Hnd
            refine Hnd.out.mono ?_
            rintro e w52 ⟨rfl, hb⟩
            have H53 := Lib.hid (H42.out.below hb)
            clear hb Hnd H42
            go_wp2_with fail
            have H54 := Lib.hid (H53.out.lit 83 [[.int .i64 9, .string x40.text, .int .i64 x40.line, .int .i64 x40.col, .slice none 0 0]] [.mk 9 x40.text x40.line x40.col []] rfl (by simp) rfl (fun j n c hj hc => by
              have hjl := (List.getElem?_eq_some_iff.1 hc).1
              simp only [List.length_cons, List.length_nil] at hjl
              obtain rfl : j = 0 := by omega
              · simp at hj hc
                subst hj hc
                exact ⟨_, _, _, _, _, _, _, rfl, rfl, .inr rfl⟩))
            clear H53
            have Hc55 := Lib.hid (sign_any bp 0 ⟨#[61]⟩ en ts39 (dp) (w52.alloc (.cells #[.int .i64 9, .string x40.text, .int .i64 x40.line, .int .i64 x40.col, .slice none 0 0] 83)) (by omega) H54.out.ps)
            try unfold ptr at Hc55
            refine Hc55.out.mono ?_
            rintro e w56 ⟨rfl, hb⟩
            have H57 := Lib.hid (H54.out.below hb)
            clear hb Hc55 H54
            rw [Hs.out]
            obtain ⟨r58, r59, r60, r61, r62⟩ := four_facts (H57.out.at (b := b12) (cs := #[.int .i64 x9.kind, .string x9.text, .int .i64 x9.line, .int .i64 x9.col]) (T := 157) (by simp))
            go_wp2_with fail
            clear r58 r59 r60 r61 r62
            have Hnd := Lib.hid (node_any 7 x9 x9.text (some ⟨w52.heap.size, 0, none⟩) 1 1 w56)
            unfold tokV nodeC at Hnd
            refine Hnd.out.mono ?_
            rintro e w63 ⟨rfl, hb⟩
            have H64 := Lib.hid (H57.out.below hb)
            clear hb Hnd H57
            obtain ⟨r65, r66, r67, r68, r69, r70, r71, r72, r73, r74, r75⟩ := five_facts (H64.out.at (b := w.heap.size) (cs := #[.int .i64 0, .string ⟨#[]⟩, .int .i64 0, .int .i64 0, .slice none 0 0]) (T := 83) (by simp))
            go_wp2_with fail
            refine bodyPost_ret (v := .agg #[.int .i64 7, .string x9.text, .int .i64 x9.line, .int .i64 x9.col, .slice (some ⟨w52.heap.size, 0, none⟩) 1 1]) (by simp [results, Tryz.results175, go_sem, r66, r67, r68, r69, r70]) rfl ?_
            have G := Lib.hid (H64.out.put5 2 rfl (.int .i64 7) (.string x9.text) (.int .i64 x9.line) (.int .i64 x9.col) (.slice (some ⟨w52.heap.size, 0, none⟩) 1 1))
            rw [Hsp46.out]
            exact ⟨G.out.grown, G.out.ps, _, rfl, NodeV.mk _ _ _ _ _ (G.out.hand (by simp [nodeT]))⟩
          · have Hsp76 : Hid (pParam en L ts dp = PM.bind (pEat en [61]) (fun _ => PM.bind (pExpr en L) fun x => PM.pure (nodeT 7 x9 x9.text [nodeT 9 x40 x40.text [], x])) ts39 dp) := Lib.hid (by rw [Hsp38.out]; show (if isSign en ts39 0 [61] = true then (_ : PM Nd) else _) ts39 dp = _; rw [hs] <;> rfl)
            have Hs := Lib.hid hs
            clear hs Hsp38
            obtain ⟨r77, r78, r79, r80, r81⟩ := four_facts (H42.out.at (b := b43) (cs := #[.int .i64 x40.kind, .string x40.text, .int .i64 x40.line, .int .i64 x40.col]) (T := 157) (by simp))
            go_wp2_with fail
            clear r77 r78 r79 r80 r81
            have Hnd := Lib.hid (node_any 9 x40 x40.text none 0 0 W41)
            unfold tokV nodeC at Hnd
            refine Hnd.out.mono ?_
            rintro e w82 ⟨rfl, hb⟩
            have H83 := Lib.hid (H42.out.below hb)
            clear hb Hnd H42
            obtain ⟨i0, hi, hz0, hz1, hz2⟩ := info_parts infoNode
            go_wp2_with fail
            have H84 := Lib.hid (PO.ofLit H83.out (cs := #[.int .i64 9, .string x40.text, .int .i64 x40.line, .int .i64 x40.col, .slice none 0 0]) [[.int .i64 9, .string x40.text, .int .i64 x40.line, .int .i64 x40.col, .slice none 0 0]] [.mk 9 x40.text x40.line x40.col []] rfl (by simp) rfl rfl (by simp) (fun j n c hj hc => by
              have hjl := (List.getElem?_eq_some_iff.1 hc).1
              simp only [List.length_cons, List.length_nil] at hjl
              obtain rfl : j = 0 := by omega
              · simp at hj hc
                subst hj hc
                exact ⟨_, _, _, _, _, _, _, rfl, rfl, .inr rfl⟩))
            clear H83
            have Hc85 := Lib.hid (sign_any bp 0 ⟨#[61]⟩ en ts39 (dp) (w82.alloc (.cells #[.int .i64 9, .string x40.text, .int .i64 x40.line, .int .i64 x40.col, .slice none 0 0] 83)) (by omega) H84.out.ps)
            try unfold ptr at Hc85
            refine Hc85.out.mono ?_
            rintro e w86 ⟨rfl, hb⟩
            have H87 := Lib.hid (H84.out.below hb)
            clear hb Hc85 H84
            rw [Hs.out]
            clear Hs
            have hne : (pEat en [61]) ts39 (dp) ≠ .out := fun h => Hr.out (Hsp76.out.trans (bind_out h))
            have Hc88 := Lib.hid (eat_any bp ⟨#[61]⟩ en ts39 (dp) w86 H87.out.ps hne)
            try unfold ptr at Hc88
            clear hne
            go_wp2_with fail
            refine Hc88.out.mono ?_
            rintro e w89 ⟨hg, hq⟩
            cases hm : (pEat en [61]) ts39 (dp) with
            | out => exact absurd (Hsp76.out.trans (bind_out hm)) Hr.out
            | err ex el ec =>
              rw [hm] at hq
              obtain rfl := hq
              have Hf : Hid (pParam en L ts dp = .err ex el ec) := Lib.hid (Hsp76.out.trans (bind_err hm))
              clear hm
              refine ⟨rfl, ?_⟩
              rw [Hf.out]
              exact ⟨grownBy_trans H87.out.grown hg, rfl⟩
            | ok x93 ts92 dq =>
              have hdq : dp = dq := by have := Inc.eat _ _ _ _ _ _ hm; omega
              subst hdq
              rw [hm] at hq
              obtain ⟨hps, v, rfl, -⟩ := hq
              have H90 := Lib.hid (H87.out.call hg hps)
              have Hsp91 := Lib.hid (Hsp76.out.trans (bind_ok hm))
              clear hm hg hps Hc88 H87 Hsp76
              have hne : (pExpr en L) ts92 (dp) ≠ .out := fun h => Hr.out (Hsp91.out.trans (bind_out h))
              have Hc94 := Lib.hid (Hx.out w89 ts92 (dp) H90.out.ps (by omega) (by omega) hne)
              try unfold ptr at Hc94
              clear hne
              go_wp2_with fail
              refine Hc94.out.mono ?_
              rintro e w95 ⟨hg, hq⟩
              cases hm : (pExpr en L) ts92 (dp) with
              | out => exact absurd (Hsp91.out.trans (bind_out hm)) Hr.out
              | err ex el ec =>
                rw [hm] at hq
                obtain rfl := hq
                have Hf : Hid (pParam en L ts dp = .err ex el ec) := Lib.hid (Hsp91.out.trans (bind_err hm))
                clear hm
                refine ⟨rfl, ?_⟩
                rw [Hf.out]
                exact ⟨grownBy_trans H90.out.grown hg, rfl⟩
              | ok x99 ts98 dq =>
                have hdq : dp = dq := by have := Inc.expr hL _ _ _ _ _ hm; omega
                subst hdq
                rw [hm] at hq
                obtain ⟨x99k, x99t, x99l, x99c, x99s⟩ := x99
                obtain ⟨hps, v, rfl, hv⟩ := hq
                obtain ⟨a100, cap101, rfl, hrow⟩ := NodeV.open hv
                have Hccap101 := Lib.hid (NodeV.cap hv)
                have H96 := Lib.hid ((H90.out.call hg hps).row hrow H90.out.grown.size H90.out.lt)
                clear hv hrow
                have Hsp97 := Lib.hid (Hsp91.out.trans (bind_ok hm))
                clear hm hg hps Hc94 H90 Hsp91
                have H102 := Lib.hid (H96.out.lit 83 [[.int .i64 x99k, .string x99t, .int .i64 x99l, .int .i64 x99c, .slice a100 x99s.length cap101]] [.mk x99k x99t x99l x99c x99s] rfl (by simp) rfl (fun j n c hj hc => by
                  have hjl := (List.getElem?_eq_some_iff.1 hc).1
                  simp only [List.length_cons, List.length_nil] at hjl
                  obtain rfl : j = 0 := by omega
                  · simp at hj hc
                    subst hj hc
                    exact ⟨_, _, _, _, _, _, _, rfl, rfl, .inl (by simp)⟩))
                clear H96
                go_wp2_with (at_builtin; refine wpList_append_row rfl _ _ 23 rfl w.heap.size 83 i0 _ 5 64 Tryz.underlying23 hi hz0 hz1 hz2 rfl (by decide) (.slice (some ⟨w82.heap.size, 0, none⟩) 1 1) (PF w [(b43, #[.int .i64 x40.kind, .string x40.text, .int .i64 x40.line, .int .i64 x40.col], 157), (b12, #[.int .i64 x9.kind, .string x9.text, .int .i64 x9.line, .int .i64 x9.col], 157), (w.heap.size, #[.int .i64 0, .string ⟨#[]⟩, .int .i64 0, .int .i64 0, .slice none 0 0], 83)]) (nodesD (([.mk 9 x40.text x40.line x40.col []] : List Nd))) rfl H102.out.od w95.heap.size 0 1 (nodesD [.mk x99k x99t x99l x99c x99s]) ?_ (H102.out.rd ((some ⟨w95.heap.size, 0, none⟩), [.mk x99k x99t x99l x99c x99s]) (by simp)) (nodesD_all nodeD_len _) (nodesD_all nodeD_plain _) ?_ ?_ ?_ ?_)
                · rw [nodesD_len]; rfl
                · rw [nodesD_len, nodesD_len]; unfold maxLen; simp only [List.length_cons, List.length_nil]; omega
                · rw [nodesD_len, nodesD_len]; simp only [List.length_cons, List.length_nil]; omega
                · exact H102.out.grown.size
                intro v103 w104 hown4 hgrow4 hor4
                have H105 := Lib.hid (H102.out.grew hown4 hgrow4 (fun g hg => (hor4 g hg).imp id (fun h => by simpa using h)))
                clear hown4 hgrow4 hor4 H102
                obtain ⟨r106, r107, r108, r109, r110⟩ := four_facts (H105.out.at (b := b12) (cs := #[.int .i64 x9.kind, .string x9.text, .int .i64 x9.line, .int .i64 x9.col]) (T := 157) (by simp))
                go_wp2_with fail
                clear r106 r107 r108 r109 r110
                obtain ⟨a111, cap112, hv5⟩ := H105.out.slice
                subst hv5
                have H113 := Lib.hid H105.out.toRow
                clear H105
                have Hnd := Lib.hid (node_any 7 x9 x9.text a111 (([.mk 9 x40.text x40.line x40.col []] : List Nd) ++ ([.mk x99k x99t x99l x99c x99s] : List Nd)).length cap112 w104)
                unfold tokV nodeC at Hnd
                refine Hnd.out.mono ?_
                rintro e w114 ⟨rfl, hb⟩
                have H115 := Lib.hid (H113.out.below hb)
                clear hb Hnd H113
                obtain ⟨r116, r117, r118, r119, r120, r121, r122, r123, r124, r125, r126⟩ := five_facts (H115.out.at (b := w.heap.size) (cs := #[.int .i64 0, .string ⟨#[]⟩, .int .i64 0, .int .i64 0, .slice none 0 0]) (T := 83) (by simp))
                go_wp2_with fail
                refine bodyPost_ret (v := .agg #[.int .i64 7, .string x9.text, .int .i64 x9.line, .int .i64 x9.col, .slice a111 (([.mk 9 x40.text x40.line x40.col []] : List Nd) ++ ([.mk x99k x99t x99l x99c x99s] : List Nd)).length cap112]) (by simp [results, Tryz.results175, go_sem, r117, r118, r119, r120, r121]) rfl ?_
                have G := Lib.hid (H115.out.put5 2 rfl (.int .i64 7) (.string x9.text) (.int .i64 x9.line) (.int .i64 x9.col) (.slice a111 (([.mk 9 x40.text x40.line x40.col []] : List Nd) ++ ([.mk x99k x99t x99l x99c x99s] : List Nd)).length cap112))
                rw [Hsp97.out]
                exact ⟨G.out.grown, G.out.ps, _, rfl, NodeV.mk _ _ _ _ _ (G.out.hand (by simp [nodeT]))⟩

end Go.Proofs.YthknljeffpbbmaaGreatDoor
namespace Go.Proofs.YthknljeffpbbmaaGreatDoor
open Go Go.RowKit

set_option maxRecDepth 100000 in
set_option maxHeartbeats 8000000 in
theorem rule_any (bp : Nat) (en : Int × Int) (L : Lvl) (hL : LInc L) (hx : Does 175 bp en VNode (pParam en L)) (hb0 : Does 156 bp en VNode (pBlock en L)) : Does 157 bp en VNode (pRule en L) := by
  intro w ts dp hp hd0 hd1 hr
  have Hr := Lib.hid hr
  have Hx := Lib.hid hx
  have Hb0 := Lib.hid hb0
  clear hx hb0
  have hsp : pRule en L ts dp = PM.bind (pTake en true) (fun t => pLook fun ts => PM.bind (pTake en (isNameT en ts)) (fun name => PM.bind (pEat en [40]) (fun _ => PM.bind (pList en [41] (pOne (pParam en L))) fun kids => PM.bind (pEat en [41]) (fun _ => PM.bind (pBlock en L) fun b => PM.pure (nodeT 6 t name.text (kids ++ [b])))))) ts dp := rfl
  have Hsp := Lib.hid hsp
  have H0 := Lib.hid (((PI.start hp).alloc #[.pointer (some ⟨bp, 0, none⟩)] 152).alloc #[.int .i64 0, .string ⟨#[]⟩, .int .i64 0, .int .i64 0, .slice none 0 0] 83)
  have hbx : (w.alloc (.cells #[.pointer (some ⟨bp, 0, none⟩)] 152)).heap.size = w.heap.size + 1 := by simp
  rw [hbx] at H0
  clear hp hr hsp hbx
  unfold ptr
  go_enter Tryz.func157, Tryz.ntmps157
  have hne : (pTake en true) ts (dp) ≠ .out := fun h => Hr.out (Hsp.out.trans (bind_out h))
  have Hc1 := Lib.hid (take_any bp true en ts (dp) ((w.alloc (.cells #[.pointer (some ⟨bp, 0, none⟩)] 152)).alloc (.cells #[.int .i64 0, .string ⟨#[]⟩, .int .i64 0, .int .i64 0, .slice none 0 0] 83)) H0.out.ps hne)
  try unfold ptr at Hc1
  clear hne
  obtain ⟨r7, r8⟩ := one_facts (H0.out.at (b := w.heap.size) (cs := #[.pointer (some ⟨bp, 0, none⟩)]) (T := 152) (by simp))
  go_wp2_with fail
  clear r7 r8
  refine Hc1.out.mono ?_
  rintro e w2 ⟨hg, hq⟩
  cases hm : (pTake en true) ts (dp) with
  | out => exact absurd (Hsp.out.trans (bind_out hm)) Hr.out
  | err ex el ec =>
    rw [hm] at hq
    obtain rfl := hq
    have Hf : Hid (pRule en L ts dp = .err ex el ec) := Lib.hid (Hsp.out.trans (bind_err hm))
    clear hm
    refine ⟨rfl, ?_⟩
    rw [Hf.out]
    exact ⟨grownBy_trans H0.out.grown hg, rfl⟩
  | ok x6 ts5 dq =>
    have hdq : dp = dq := by have := Inc.take _ _ _ _ _ _ hm; omega
    subst hdq
    rw [hm] at hq
    obtain ⟨hps, v, rfl, rfl⟩ := hq
    have H3 := Lib.hid (H0.out.call hg hps)
    try unfold tokV
    have Hsp4 := Lib.hid (Hsp.out.trans (bind_ok hm))
    clear hm hg hps Hc1 H0 Hsp
    obtain ⟨r14, r15⟩ := one_facts (H3.out.at (b := w.heap.size) (cs := #[.pointer (some ⟨bp, 0, none⟩)]) (T := 152) (by simp))
    have H10 := Lib.hid (H3.out.alloc #[.int .i64 x6.kind, .string x6.text, .int .i64 x6.line, .int .i64 x6.col] 157)
    clear H3
    obtain ⟨W9, hW⟩ : ∃ X, X = w2.alloc (.cells #[.int .i64 x6.kind, .string x6.text, .int .i64 x6.line, .int .i64 x6.col] 157) := ⟨_, rfl⟩
    rw [← hW] at H10
    have HW12 := Lib.hid hW
    clear hW
    generalize hb : w2.heap.size = b11 at H10
    have Hb13 := Lib.hid hb
    clear hb
    go_wp2_with fail
    rw [← HW12.out, Hb13.out]
    clear HW12 Hb13 r14 r15
    have Hsp16 : Hid (pRule en L ts dp = PM.bind (pTake en (isNameT en ts5)) (fun name => PM.bind (pEat en [40]) (fun _ => PM.bind (pList en [41] (pOne (pParam en L))) fun kids => PM.bind (pEat en [41]) (fun _ => PM.bind (pBlock en L) fun b => PM.pure (nodeT 6 x6 name.text (kids ++ [b]))))) ts5 dp) := Lib.hid (by rw [Hsp4.out] <;> rfl)
    clear Hsp4
    go_cut [4] from 6 (fun v wc => ∃ (t : Tok) (ts1 : List Tok) (b : Nat), v = .pointer (some ⟨b, 0, none⟩) ∧ Hid (pRule en L ts dp = PM.bind (pEat en [40]) (fun _ => PM.bind (pList en [41] (pOne (pParam en L))) fun kids => PM.bind (pEat en [41]) (fun _ => PM.bind (pBlock en L) fun b => PM.pure (nodeT 6 x6 t.text (kids ++ [b])))) ts1 dp) ∧ Hid (PI w bp en ts1 (dp) [(b, #[.int .i64 t.kind, .string t.text, .int .i64 t.line, .int .i64 t.col], 157), (b11, #[.int .i64 x6.kind, .string x6.text, .int .i64 x6.line, .int .i64 x6.col], 157), (w.heap.size + 1, #[.int .i64 0, .string ⟨#[]⟩, .int .i64 0, .int .i64 0, .slice none 0 0], 83), (w.heap.size, #[.pointer (some ⟨bp, 0, none⟩)], 152)] [] wc))
    case first =>
      have H17 := Lib.hid H10.out.drew
      clear H10
      refine wp_region_turns (.s 0 (.s 1 (.b 2 (.b 3 (.h 4 (.h 5 .nil)) 4 (.h 3 (.h 5 .nil))) 4 (.h 2 (.h 3 (.h 5 .nil)))))) 5 (fun W' => W'.heap[w.heap.size]? = some (.cells #[.pointer (some ⟨bp, 0, none⟩)] 152 (0, 0))) (by kernel_rfl) (by kernel_rfl) (fun c a d v w h => by cases d <;> exact h) (H17.out.at (by simp)) ?_
      generalize hW : W9.drew = W18 at H17 ⊢
      clear hW
      refine turn_steady (.pointer (some ⟨bp, 0, none⟩)) rfl rfl (fun W' hS => ?_) ?_
      · try unfold tokV
        try unfold ptr
        have hS0 := hS
        obtain ⟨s00, s01⟩ := one_facts hS0
        clear hS0
        go_simp
      refine turn_steady (.pointer (some ⟨bp, 0, none⟩)) rfl rfl (fun W' hS => ?_) ?_
      · try unfold tokV
        try unfold ptr
        have hS0 := hS
        obtain ⟨s00, s01⟩ := one_facts hS0
        clear hS0
        go_simp
      refine turn_both rfl rfl (fun K19 hK19 => ?_) (fun K20 hK20 => ?_)
      · try unfold tokV ptr
        go_wp2_with fail
        have Hc21 := Lib.hid (name_any bp en ts5 (dp) W18 H17.out.ps)
        try unfold ptr at Hc21
        refine Hc21.out.mono ?_
        rintro e w22 ⟨rfl, hb⟩
        have H23 := Lib.hid (H17.out.below hb)
        clear hb Hc21 H17
        go_wp2_with fail
        refine hK19 _ _ (fun _ => H23.out.at (by simp)) ?_
        refine turn_both rfl rfl (fun K24 hK24 => ?_) (fun K25 hK25 => ?_)
        · try unfold tokV ptr
          go_wp2_with fail
          have hne : (pTake en (isNameT en ts5)) ts5 (dp) ≠ .out := fun h => Hr.out (Hsp16.out.trans (bind_out h))
          have Hc26 := Lib.hid (take_any bp (isNameT en ts5) en ts5 (dp) w22 H23.out.ps hne)
          try unfold ptr at Hc26
          clear hne
          refine Hc26.out.mono ?_
          rintro e w27 ⟨hg, hq⟩
          cases hm : (pTake en (isNameT en ts5)) ts5 (dp) with
          | out => exact absurd (Hsp16.out.trans (bind_out hm)) Hr.out
          | err ex el ec =>
            rw [hm] at hq
            obtain rfl := hq
            have Hf : Hid (pRule en L ts dp = .err ex el ec) := Lib.hid (Hsp16.out.trans (bind_err hm))
            clear hm
            refine ⟨rfl, ?_⟩
            rw [Hf.out]
            exact ⟨grownBy_trans H23.out.grown hg, rfl⟩
          | ok x31 ts30 dq =>
            have hdq : dp = dq := by have := Inc.take _ _ _ _ _ _ hm; omega
            subst hdq
            rw [hm] at hq
            obtain ⟨hps, v, rfl, rfl⟩ := hq
            have H28 := Lib.hid (H23.out.call hg hps)
            try unfold tokV
            have Hsp29 := Lib.hid (Hsp16.out.trans (bind_ok hm))
            clear hm hg hps Hc26 H23 Hsp16
            go_wp2_with fail
            refine hK24 _ _ (fun _ => H28.out.at (by simp)) ?_
            refine turn_heavy rfl (fun K32 hK32 => ?_)
            try unfold tokV ptr
            go_wp2_with fail
            have H33 := Lib.hid (H28.out.alloc #[.int .i64 0, .string ⟨#[]⟩, .int .i64 0, .int .i64 0] 157)
            clear H28
            generalize hW : w27.alloc (.cells #[.int .i64 0, .string ⟨#[]⟩, .int .i64 0, .int .i64 0] 157) = W35 at H33 ⊢
            clear hW
            generalize hb : w27.heap.size = b34 at H33 ⊢
            clear hb
            refine hK32 _ _ (fun _ => H33.out.at (by simp)) ?_
            obtain ⟨r36, r37, r38, r39, r40, r41, r42, r43, r44⟩ := four_wfacts (H33.out.at (b := b34) (cs := #[.int .i64 0, .string ⟨#[]⟩, .int .i64 0, .int .i64 0]) (T := 157) (by simp))
            refine turn_heavy rfl (fun K45 hK45 => ?_)
            try unfold tokV ptr
            go_wp2_with fail
            have H46 := Lib.hid (H33.out.put4 0 rfl (.int .i64 x31.kind) (.string x31.text) (.int .i64 x31.line) (.int .i64 x31.col))
            refine hK45 _ _ (fun h => absurd rfl h) ?_
            refine turn_end ?_
            go_wp2_with fail
            go_meet
            case rel => exact ⟨x31, ts30, b34, rfl, Hsp29, H46⟩
        · try unfold tokV ptr
          go_wp2_with fail
          have H47 := Lib.hid (H23.out.alloc #[.int .i64 0, .string ⟨#[]⟩, .int .i64 0, .int .i64 0] 157)
          clear H23
          generalize hW : w22.alloc (.cells #[.int .i64 0, .string ⟨#[]⟩, .int .i64 0, .int .i64 0] 157) = W49 at H47 ⊢
          clear hW
          generalize hb : w22.heap.size = b48 at H47 ⊢
          clear hb
          refine hK25 _ _ (fun _ => H47.out.at (by simp)) ?_
          refine turn_heavy rfl (fun K50 hK50 => ?_)
          try unfold tokV ptr
          go_wp2_with fail
          have hne : (pTake en (isNameT en ts5)) ts5 (dp) ≠ .out := fun h => Hr.out (Hsp16.out.trans (bind_out h))
          have Hc51 := Lib.hid (take_any bp (isNameT en ts5) en ts5 (dp) W49 H47.out.ps hne)
          try unfold ptr at Hc51
          clear hne
          refine Hc51.out.mono ?_
          rintro e w52 ⟨hg, hq⟩
          cases hm : (pTake en (isNameT en ts5)) ts5 (dp) with
          | out => exact absurd (Hsp16.out.trans (bind_out hm)) Hr.out
          | err ex el ec =>
            rw [hm] at hq
            obtain rfl := hq
            have Hf : Hid (pRule en L ts dp = .err ex el ec) := Lib.hid (Hsp16.out.trans (bind_err hm))
            clear hm
            refine ⟨rfl, ?_⟩
            rw [Hf.out]
            exact ⟨grownBy_trans H47.out.grown hg, rfl⟩
          | ok x56 ts55 dq =>
            have hdq : dp = dq := by have := Inc.take _ _ _ _ _ _ hm; omega
            subst hdq
            rw [hm] at hq
            obtain ⟨hps, v, rfl, rfl⟩ := hq
            have H53 := Lib.hid (H47.out.call hg hps)
            try unfold tokV
            have Hsp54 := Lib.hid (Hsp16.out.trans (bind_ok hm))
            clear hm hg hps Hc51 H47 Hsp16
            go_wp2_with fail
            refine hK50 _ _ (fun _ => H53.out.at (by simp)) ?_
            obtain ⟨r57, r58, r59, r60, r61, r62, r63, r64, r65⟩ := four_wfacts (H53.out.at (b := b48) (cs := #[.int .i64 0, .string ⟨#[]⟩, .int .i64 0, .int .i64 0]) (T := 157) (by simp))
            refine turn_heavy rfl (fun K66 hK66 => ?_)
            try unfold tokV ptr
            go_wp2_with fail
            have H67 := Lib.hid (H53.out.put4 0 rfl (.int .i64 x56.kind) (.string x56.text) (.int .i64 x56.line) (.int .i64 x56.col))
            refine hK66 _ _ (fun h => absurd rfl h) ?_
            refine turn_end ?_
            go_wp2_with fail
            go_meet
            case rel => exact ⟨x56, ts55, b48, rfl, Hsp54, H67⟩
      · try unfold tokV ptr
        go_wp2_with fail
        have H68 := Lib.hid (H17.out.alloc #[.int .i64 0, .string ⟨#[]⟩, .int .i64 0, .int .i64 0] 157)
        clear H17
        generalize hW : W18.alloc (.cells #[.int .i64 0, .string ⟨#[]⟩, .int .i64 0, .int .i64 0] 157) = W70 at H68 ⊢
        clear hW
        generalize hb : W18.heap.size = b69 at H68 ⊢
        clear hb
        refine hK20 _ _ (fun _ => H68.out.at (by simp)) ?_
        refine turn_heavy rfl (fun K71 hK71 => ?_)
        try unfold tokV ptr
        go_wp2_with fail
        have Hc72 := Lib.hid (name_any bp en ts5 (dp) W70 H68.out.ps)
        try unfold ptr at Hc72
        refine Hc72.out.mono ?_
        rintro e w73 ⟨rfl, hb⟩
        have H74 := Lib.hid (H68.out.below hb)
        clear hb Hc72 H68
        go_wp2_with fail
        refine hK71 _ _ (fun _ => H74.out.at (by simp)) ?_
        refine turn_heavy rfl (fun K75 hK75 => ?_)
        try unfold tokV ptr
        go_wp2_with fail
        have hne : (pTake en (isNameT en ts5)) ts5 (dp) ≠ .out := fun h => Hr.out (Hsp16.out.trans (bind_out h))
        have Hc76 := Lib.hid (take_any bp (isNameT en ts5) en ts5 (dp) w73 H74.out.ps hne)
        try unfold ptr at Hc76
        clear hne
        refine Hc76.out.mono ?_
        rintro e w77 ⟨hg, hq⟩
        cases hm : (pTake en (isNameT en ts5)) ts5 (dp) with
        | out => exact absurd (Hsp16.out.trans (bind_out hm)) Hr.out
        | err ex el ec =>
          rw [hm] at hq
          obtain rfl := hq
          have Hf : Hid (pRule en L ts dp = .err ex el ec) := Lib.hid (Hsp16.out.trans (bind_err hm))
          clear hm
          refine ⟨rfl, ?_⟩
          rw [Hf.out]
          exact ⟨grownBy_trans H74.out.grown hg, rfl⟩
        | ok x81 ts80 dq =>
          have hdq : dp = dq := by have := Inc.take _ _ _ _ _ _ hm; omega
          subst hdq
          rw [hm] at hq
          obtain ⟨hps, v, rfl, rfl⟩ := hq
          have H78 := Lib.hid (H74.out.call hg hps)
          try unfold tokV
          have Hsp79 := Lib.hid (Hsp16.out.trans (bind_ok hm))
          clear hm hg hps Hc76 H74 Hsp16
          go_wp2_with fail
          refine hK75 _ _ (fun _ => H78.out.at (by simp)) ?_
          obtain ⟨r82, r83, r84, r85, r86, r87, r88, r89, r90⟩ := four_wfacts (H78.out.at (b := b69) (cs := #[.int .i64 0, .string ⟨#[]⟩, .int .i64 0, .int .i64 0]) (T := 157) (by simp))
          refine turn_heavy rfl (fun K91 hK91 => ?_)
          try unfold tokV ptr
          go_wp2_with fail
          have H92 := Lib.hid (H78.out.put4 0 rfl (.int .i64 x81.kind) (.string x81.text) (.int .i64 x81.line) (.int .i64 x81.col))
          refine hK91 _ _ (fun h => absurd rfl h) ?_
          refine turn_end ?_
          go_wp2_with fail
          go_meet
          case rel => exact ⟨x81, ts80, b69, rfl, Hsp79, H92⟩
    case rest =>
      obtain ⟨t93, ts94, b95, hv98, Hsp96, H97⟩ := hcut
      subst hv98
      clear Hsp16 H10
      rename World => w99
      have hne : (pEat en [40]) ts94 (dp) ≠ .out := fun h => Hr.out (Hsp96.out.trans (bind_out h))
      have Hc100 := Lib.hid (eat_any bp ⟨#[40]⟩ en ts94 (dp) w99 H97.out.ps hne)
      try unfold ptr at Hc100
      clear hne
      obtain ⟨r106, r107⟩ := one_facts (H97.out.at (b := w.heap.size) (cs := #[.pointer (some ⟨bp, 0, none⟩)]) (T := 152) (by simp))
      go_wp2_with fail
      clear r106 r107
      refine Hc100.out.mono ?_
      rintro e w101 ⟨hg, hq⟩
      cases hm : (pEat en [40]) ts94 (dp) with
      | out => exact absurd (Hsp96.out.trans (bind_out hm)) Hr.out
      | err ex el ec =>
        rw [hm] at hq
        obtain rfl := hq
        have Hf : Hid (pRule en L ts dp = .err ex el ec) := Lib.hid (Hsp96.out.trans (bind_err hm))
        clear hm
        refine ⟨rfl, ?_⟩
        rw [Hf.out]
        exact ⟨grownBy_trans H97.out.grown hg, rfl⟩
      | ok x105 ts104 dq =>
        have hdq : dp = dq := by have := Inc.eat _ _ _ _ _ _ hm; omega
        subst hdq
        rw [hm] at hq
        obtain ⟨hps, v, rfl, -⟩ := hq
        have H102 := Lib.hid (H97.out.call hg hps)
        have Hsp103 := Lib.hid (Hsp96.out.trans (bind_ok hm))
        clear hm hg hps Hc100 H97 Hsp96
        obtain ⟨i0, hi, hz0, hz1, hz2⟩ := info_parts infoNode
        have hne : (pList en [41] (pOne (pParam en L))) ts104 (dp) ≠ .out := fun h => Hr.out (Hsp103.out.trans (bind_out h))
        have Hc108 := Lib.hid (list_own bp ⟨#[41]⟩ 174 #[] #[.pointer (some ⟨w.heap.size, 0, none⟩)] (pOne (pParam en L)) en ts104 (dp) w101 (by omega) (by omega) H102.out.ps (by intro args w; rfl) (fun w1 ts1 hg hp' hr' => rule1_any bp w.heap.size en L (Inc.param hL) Hx.out w1 (H102.out.later hg (by simp [ptr])) ts1 (dp) hp' (by omega) (by omega) hr') (Inc.one (Inc.param hL)) pure_one hne)
        try unfold ptr at Hc108
        clear hne
        obtain ⟨r114, r115⟩ := one_facts (H102.out.at (b := w.heap.size) (cs := #[.pointer (some ⟨bp, 0, none⟩)]) (T := 152) (by simp))
        go_wp2_with fail
        clear r114 r115
        refine Hc108.out.mono ?_
        rintro e w109 ⟨hg, hq⟩
        cases hm : (pList en [41] (pOne (pParam en L))) ts104 (dp) with
        | out => exact absurd (Hsp103.out.trans (bind_out hm)) Hr.out
        | err ex el ec =>
          rw [hm] at hq
          obtain rfl := hq
          have Hf : Hid (pRule en L ts dp = .err ex el ec) := Lib.hid (Hsp103.out.trans (bind_err hm))
          clear hm
          refine ⟨rfl, ?_⟩
          rw [Hf.out]
          exact ⟨grownBy_trans H102.out.grown hg, rfl⟩
        | ok x113 ts112 dq =>
          have hdq : dp = dq := by have := Inc.list (Inc.one (Inc.param hL)) _ _ _ _ _ hm; omega
          subst hdq
          rw [hm] at hq
          obtain ⟨hps, v116, rfl, hv⟩ := hq
          have hkl118 := hv.2
          have H110 := Lib.hid (PO.ofOwn H102.out hg hps hv)
          clear hv
          have Hsp111 := Lib.hid (Hsp103.out.trans (bind_ok hm))
          clear hm hg hps Hc108 H102 Hsp103
          have hne : (pEat en [41]) ts112 (dp) ≠ .out := fun h => Hr.out (Hsp111.out.trans (bind_out h))
          have Hc119 := Lib.hid (eat_any bp ⟨#[41]⟩ en ts112 (dp) w109 H110.out.ps hne)
          try unfold ptr at Hc119
          clear hne
          obtain ⟨r125, r126⟩ := one_facts (H110.out.at (b := w.heap.size) (cs := #[.pointer (some ⟨bp, 0, none⟩)]) (T := 152) (by simp))
          go_wp2_with fail
          clear r125 r126
          refine Hc119.out.mono ?_
          rintro e w120 ⟨hg, hq⟩
          cases hm : (pEat en [41]) ts112 (dp) with
          | out => exact absurd (Hsp111.out.trans (bind_out hm)) Hr.out
          | err ex el ec =>
            rw [hm] at hq
            obtain rfl := hq
            have Hf : Hid (pRule en L ts dp = .err ex el ec) := Lib.hid (Hsp111.out.trans (bind_err hm))
            clear hm
            refine ⟨rfl, ?_⟩
            rw [Hf.out]
            exact ⟨grownBy_trans H110.out.grown hg, rfl⟩
          | ok x124 ts123 dq =>
            have hdq : dp = dq := by have := Inc.eat _ _ _ _ _ _ hm; omega
            subst hdq
            rw [hm] at hq
            obtain ⟨hps, v, rfl, -⟩ := hq
            have H121 := Lib.hid (H110.out.call hg hps)
            have Hsp122 := Lib.hid (Hsp111.out.trans (bind_ok hm))
            clear hm hg hps Hc119 H110 Hsp111
            have H127 := Lib.hid H121.out.drew
            clear H121
            go_wp2_with fail
            refine wp_region_turns (.s 0 (.s 1 (.s 2 (.s 3 (.s 4 (.h 5 (.h 6 (.h 7 (.h 8 (.h 9 .nil)))))))))) 9 (fun W' => W'.heap[b11]? = some (.cells #[.int .i64 x6.kind, .string x6.text, .int .i64 x6.line, .int .i64 x6.col] 157 (0, 0)) ∧ W'.heap[b95]? = some (.cells #[.int .i64 t93.kind, .string t93.text, .int .i64 t93.line, .int .i64 t93.col] 157 (0, 0)) ∧ W'.heap[w.heap.size]? = some (.cells #[.pointer (some ⟨bp, 0, none⟩)] 152 (0, 0))) (by kernel_rfl) (by kernel_rfl) (fun c a d v w h => by cases d <;> exact h) (⟨H127.out.at (by simp), H127.out.at (by simp), H127.out.at (by simp)⟩) ?_
            refine turn_steady (tokV x6) rfl rfl (fun W' hS => ?_) ?_
            · try unfold tokV
              try unfold ptr
              obtain ⟨hS0, hS1, hS2⟩ := hS
              obtain ⟨s00, s01, s02, s03, s04⟩ := four_facts hS0
              clear hS0
              obtain ⟨s10, s11, s12, s13, s14⟩ := four_facts hS1
              clear hS1
              obtain ⟨s20, s21⟩ := one_facts hS2
              clear hS2
              go_simp
            refine turn_steady (.pointer (some ⟨b95, 1, none⟩)) rfl rfl (fun W' hS => ?_) ?_
            · try unfold tokV
              try unfold ptr
              obtain ⟨hS0, hS1, hS2⟩ := hS
              obtain ⟨s00, s01, s02, s03, s04⟩ := four_facts hS0
              clear hS0
              obtain ⟨s10, s11, s12, s13, s14⟩ := four_facts hS1
              clear hS1
              obtain ⟨s20, s21⟩ := one_facts hS2
              clear hS2
              go_simp
            refine turn_steady (.string t93.text) rfl rfl (fun W' hS => ?_) ?_
            · try unfold tokV
              try unfold ptr
              obtain ⟨hS0, hS1, hS2⟩ := hS
              obtain ⟨s00, s01, s02, s03, s04⟩ := four_facts hS0
              clear hS0
              obtain ⟨s10, s11, s12, s13, s14⟩ := four_facts hS1
              clear hS1
              obtain ⟨s20, s21⟩ := one_facts hS2
              clear hS2
              go_simp
            refine turn_steady (v116) rfl rfl (fun W' hS => ?_) ?_
            · try unfold tokV
              try unfold ptr
              obtain ⟨hS0, hS1, hS2⟩ := hS
              obtain ⟨s00, s01, s02, s03, s04⟩ := four_facts hS0
              clear hS0
              obtain ⟨s10, s11, s12, s13, s14⟩ := four_facts hS1
              clear hS1
              obtain ⟨s20, s21⟩ := one_facts hS2
              clear hS2
              go_simp
            refine turn_steady (.pointer (some ⟨bp, 0, none⟩)) rfl rfl (fun W' hS => ?_) ?_
            · try unfold tokV
              try unfold ptr
              obtain ⟨hS0, hS1, hS2⟩ := hS
              obtain ⟨s00, s01, s02, s03, s04⟩ := four_facts hS0
              clear hS0
              obtain ⟨s10, s11, s12, s13, s14⟩ := four_facts hS1
              clear hS1
              obtain ⟨s20, s21⟩ := one_facts hS2
              clear hS2
              go_simp
            refine turn_heavy rfl (fun K128 hK128 => ?_)
            try unfold tokV ptr
            go_wp2_with fail
            have hne : (pBlock en L) ts123 (dp) ≠ .out := fun h => Hr.out (Hsp122.out.trans (bind_out h))
            have Hc129 := Lib.hid (Hb0.out w120.drew ts123 (dp) H127.out.ps (by omega) (by omega) hne)
            try unfold ptr at Hc129
            clear hne
            refine Hc129.out.mono ?_
            rintro e w130 ⟨hg, hq⟩
            cases hm : (pBlock en L) ts123 (dp) with
            | out => exact absurd (Hsp122.out.trans (bind_out hm)) Hr.out
            | err ex el ec =>
              rw [hm] at hq
              obtain rfl := hq
              have Hf : Hid (pRule en L ts dp = .err ex el ec) := Lib.hid (Hsp122.out.trans (bind_err hm))
              clear hm
              refine ⟨rfl, ?_⟩
              rw [Hf.out]
              exact ⟨grownBy_trans H127.out.grown hg, rfl⟩
            | ok x134 ts133 dq =>
              have hdq : dp = dq := by have := Inc.block hL _ _ _ _ _ hm; omega
              subst hdq
              rw [hm] at hq
              obtain ⟨x134k, x134t, x134l, x134c, x134s⟩ := x134
              obtain ⟨hps, v, rfl, hv⟩ := hq
              obtain ⟨a135, cap136, rfl, hrow⟩ := NodeV.open hv
              have Hccap136 := Lib.hid (NodeV.cap hv)
              have H131 := Lib.hid ((H127.out.call hg hps).row hrow H127.out.grown.size H127.out.lt)
              clear hv hrow
              have Hsp132 := Lib.hid (Hsp122.out.trans (bind_ok hm))
              clear hm hg hps Hc129 H127 Hsp122
              go_wp2_with fail
              refine hK128 _ _ (fun _ => ⟨H131.out.at (by simp), H131.out.at (by simp), H131.out.at (by simp)⟩) ?_
              refine turn_heavy rfl (fun K137 hK137 => ?_)
              try unfold tokV ptr
              go_wp2_with fail
              have H138 := Lib.hid (H131.out.lit 83 [[.int .i64 x134k, .string x134t, .int .i64 x134l, .int .i64 x134c, .slice a135 x134s.length cap136]] [.mk x134k x134t x134l x134c x134s] rfl (by simp) rfl (fun j n c hj hc => by
                have hjl := (List.getElem?_eq_some_iff.1 hc).1
                simp only [List.length_cons, List.length_nil] at hjl
                obtain rfl : j = 0 := by omega
                · simp at hj hc
                  subst hj hc
                  exact ⟨_, _, _, _, _, _, _, rfl, rfl, .inl (by simp)⟩))
              clear H131
              refine hK137 _ _ (fun _ => ⟨H138.out.at (by simp), H138.out.at (by simp), H138.out.at (by simp)⟩) ?_
              refine turn_heavy rfl (fun K139 hK139 => ?_)
              try unfold tokV ptr
              simp only [List.getElem_toArray, List.getElem_cons_succ, List.getElem_cons_zero]
              go_wp2_with (at_builtin; refine wpList_append_row rfl _ _ 23 rfl w.heap.size 83 i0 _ 5 64 Tryz.underlying23 hi hz0 hz1 hz2 rfl (by decide) v116 (PF w [(b95, #[.int .i64 t93.kind, .string t93.text, .int .i64 t93.line, .int .i64 t93.col], 157), (b11, #[.int .i64 x6.kind, .string x6.text, .int .i64 x6.line, .int .i64 x6.col], 157), (w.heap.size + 1, #[.int .i64 0, .string ⟨#[]⟩, .int .i64 0, .int .i64 0, .slice none 0 0], 83), (w.heap.size, #[.pointer (some ⟨bp, 0, none⟩)], 152)]) (nodesD (x113)) rfl H138.out.od w130.heap.size 0 1 (nodesD [.mk x134k x134t x134l x134c x134s]) ?_ (H138.out.rd ((some ⟨w130.heap.size, 0, none⟩), [.mk x134k x134t x134l x134c x134s]) (by simp)) (nodesD_all nodeD_len _) (nodesD_all nodeD_plain _) ?_ ?_ ?_ ?_)
              · rw [nodesD_len]; rfl
              · rw [nodesD_len, nodesD_len]; unfold maxLen; simp only [List.length_cons, List.length_nil]; omega
              · rw [nodesD_len, nodesD_len]; simp only [List.length_cons, List.length_nil]; omega
              · exact H138.out.grown.size
              intro v140 w141 hown4 hgrow4 hor4
              have H142 := Lib.hid (H138.out.grew hown4 hgrow4 (fun g hg => (hor4 g hg).imp id (fun h => by simpa using h)))
              clear hown4 hgrow4 hor4 H138
              go_wp2_with fail
              refine hK139 _ _ (fun _ => ⟨H142.out.at (by simp), H142.out.at (by simp), H142.out.at (by simp)⟩) ?_
              refine turn_heavy rfl (fun K143 hK143 => ?_)
              try unfold tokV ptr
              go_wp2_with fail
              obtain ⟨a144, cap145, hv5, hcap5⟩ := H142.out.sliceC
              have Hcap5 : Hid ((x113 ++ ([.mk x134k x134t x134l x134c x134s] : List Nd)).length ≤ cap145) := Lib.hid hcap5
              clear hcap5
              subst hv5
              have H146 := Lib.hid H142.out.toRow
              clear H142
              have Hnd := Lib.hid (node_any 6 x6 t93.text a144 (x113 ++ ([.mk x134k x134t x134l x134c x134s] : List Nd)).length cap145 w141)
              unfold tokV nodeC at Hnd
              refine Hnd.out.mono ?_
              rintro e w147 ⟨rfl, hb⟩
              have H148 := Lib.hid (H146.out.below hb)
              clear hb Hnd H146
              go_wp2_with fail
              refine hK143 _ _ (fun _ => ⟨H148.out.at (by simp), H148.out.at (by simp), H148.out.at (by simp)⟩) ?_
              obtain ⟨r149, r150, r151, r152, r153, r154, r155, r156, r157, r158, r159⟩ := five_facts (H148.out.at (b := w.heap.size + 1) (cs := #[.int .i64 0, .string ⟨#[]⟩, .int .i64 0, .int .i64 0, .slice none 0 0]) (T := 83) (by simp))
              refine turn_heavy rfl (fun K160 hK160 => ?_)
              try unfold tokV ptr
              go_wp2_with fail
              refine hK160 _ _ (fun h => absurd rfl h) ?_
              refine turn_end ?_
              go_wp2_with fail
              refine bodyPost_ret (v := .agg #[.int .i64 6, .string t93.text, .int .i64 x6.line, .int .i64 x6.col, .slice a144 (x113 ++ ([.mk x134k x134t x134l x134c x134s] : List Nd)).length cap145]) (by simp [results, Tryz.results157, go_sem, r150, r151, r152, r153, r154]) rfl ?_
              have G := Lib.hid (H148.out.put5 2 rfl (.int .i64 6) (.string t93.text) (.int .i64 x6.line) (.int .i64 x6.col) (.slice a144 (x113 ++ ([.mk x134k x134t x134l x134c x134s] : List Nd)).length cap145))
              rw [show x113.length + 1 = (x113 ++ ([.mk x134k x134t x134l x134c x134s] : List Nd)).length by simp]
              rw [Hsp132.out]
              exact ⟨G.out.grown, G.out.ps, _, rfl, NodeV.mk _ _ _ _ _ (G.out.hand (by simp)) (fun _ => Hcap5.out)⟩

end Go.Proofs.YthknljeffpbbmaaGreatDoor
