/-
  Walks of the parser: rule. (Printed by parse_gen.py.)
  Walks of the parser: expr. (Printed by parse_gen.py.)
-/
import Derived.Test.YtmmflgbhgjefmaaGreatDoorMParseQ
import Derived.Test.YtmmflgbhgjefmaaGreatDoorMParseJ
namespace Go.Proofs.YtmmflgbhgjefmaaGreatDoor
open Go Go.RowKit

set_option maxRecDepth 100000 in
set_option maxHeartbeats 8000000 in
theorem rule_any (bp : Nat) (en : Int × Int) (L : Lvl) (hL : LInc L) (hx : Does 101 bp en VNode (pParam en L)) (hb0 : Does 74 bp en VNode (pBlock en L)) : Does 75 bp en VNode (pRule en L) := by
  intro w ts dp hp hd0 hd1 hr
  have Hr := Lib.hid hr
  have Hx := Lib.hid hx
  have Hb0 := Lib.hid hb0
  clear hx hb0
  have hsp : pRule en L ts dp = PM.bind (pTake en true) (fun t => pLook fun ts => PM.bind (pTake en (isNameT en ts)) (fun name => PM.bind (pEat en [40]) (fun _ => PM.bind (pList en [41] (pOne (pParam en L))) fun kids => PM.bind (pEat en [41]) (fun _ => PM.bind (pBlock en L) fun b => PM.pure (nodeT 6 t name.text (kids ++ [b])))))) ts dp := rfl
  have Hsp := Lib.hid hsp
  have H0 := Lib.hid (((PI.start hp).alloc #[.pointer (some ⟨bp, 0, none⟩)] 76).alloc #[.int .i64 0, .string ⟨#[]⟩, .int .i64 0, .int .i64 0, .slice none 0 0] 51)
  have hbx : (w.alloc (.cells #[.pointer (some ⟨bp, 0, none⟩)] 76)).heap.size = w.heap.size + 1 := by simp
  rw [hbx] at H0
  clear hp hr hsp hbx
  unfold ptr
  go_enter Tryz.func75, Tryz.ntmps75
  have hne : (pTake en true) ts (dp) ≠ .out := fun h => Hr.out (Hsp.out.trans (bind_out h))
  have Hc1 := Lib.hid (take_any bp true en ts (dp) ((w.alloc (.cells #[.pointer (some ⟨bp, 0, none⟩)] 76)).alloc (.cells #[.int .i64 0, .string ⟨#[]⟩, .int .i64 0, .int .i64 0, .slice none 0 0] 51)) H0.out.ps hne)
  try unfold ptr at Hc1
  clear hne
  obtain ⟨r7, r8⟩ := one_facts (H0.out.at (b := w.heap.size) (cs := #[.pointer (some ⟨bp, 0, none⟩)]) (T := 76) (by simp))
  go_wp2_with fail
  clear r7 r8
  refine Hc1.out.mono ?_
  rintro e w2 ⟨hg, hq⟩
  cases hm : (pTake en true) ts (dp) with
  | out => exact absurd (Hsp.out.trans (bind_out hm)) Hr.out
  | err ex el ec =>
    rw [hm] at hq
    obtain rfl := hq
    have Hf : Hid (pRule en L ts dp = .err ex el ec) := Lib.hid (Hsp.out.trans (bind_err hm))
    clear hm
    refine ⟨rfl, ?_⟩
    rw [Hf.out]
    exact ⟨grownBy_trans H0.out.grown hg, rfl⟩
  | ok x6 ts5 dq =>
    have hdq : dp = dq := by have := Inc.take _ _ _ _ _ _ hm; omega
    subst hdq
    rw [hm] at hq
    obtain ⟨hps, v, rfl, rfl⟩ := hq
    have H3 := Lib.hid (H0.out.call hg hps)
    try unfold tokV
    have Hsp4 := Lib.hid (Hsp.out.trans (bind_ok hm))
    clear hm hg hps Hc1 H0 Hsp
    obtain ⟨r14, r15⟩ := one_facts (H3.out.at (b := w.heap.size) (cs := #[.pointer (some ⟨bp, 0, none⟩)]) (T := 76) (by simp))
    have H10 := Lib.hid (H3.out.alloc #[.int .i64 x6.kind, .string x6.text, .int .i64 x6.line, .int .i64 x6.col] 81)
    clear H3
    obtain ⟨W9, hW⟩ : ∃ X, X = w2.alloc (.cells #[.int .i64 x6.kind, .string x6.text, .int .i64 x6.line, .int .i64 x6.col] 81) := ⟨_, rfl⟩
    rw [← hW] at H10
    have HW12 := Lib.hid hW
    clear hW
    generalize hb : w2.heap.size = b11 at H10
    have Hb13 := Lib.hid hb
    clear hb
    go_wp2_with fail
    rw [← HW12.out, Hb13.out]
    clear HW12 Hb13 r14 r15
    have Hsp16 : Hid (pRule en L ts dp = PM.bind (pTake en (isNameT en ts5)) (fun name => PM.bind (pEat en [40]) (fun _ => PM.bind (pList en [41] (pOne (pParam en L))) fun kids => PM.bind (pEat en [41]) (fun _ => PM.bind (pBlock en L) fun b => PM.pure (nodeT 6 x6 name.text (kids ++ [b]))))) ts5 dp) := Lib.hid (by rw [Hsp4.out] <;> rfl)
    clear Hsp4
    go_cut [4] from 6 (fun v wc => ∃ (t : Tok) (ts1 : List Tok) (b : Nat), v = .pointer (some ⟨b, 0, none⟩) ∧ Hid (pRule en L ts dp = PM.bind (pEat en [40]) (fun _ => PM.bind (pList en [41] (pOne (pParam en L))) fun kids => PM.bind (pEat en [41]) (fun _ => PM.bind (pBlock en L) fun b => PM.pure (nodeT 6 x6 t.text (kids ++ [b])))) ts1 dp) ∧ Hid (PI w bp en ts1 (dp) [(b, #[.int .i64 t.kind, .string t.text, .int .i64 t.line, .int .i64 t.col], 81), (b11, #[.int .i64 x6.kind, .string x6.text, .int .i64 x6.line, .int .i64 x6.col], 81), (w.heap.size + 1, #[.int .i64 0, .string ⟨#[]⟩, .int .i64 0, .int .i64 0, .slice none 0 0], 51), (w.heap.size, #[.pointer (some ⟨bp, 0, none⟩)], 76)] [] wc))
    case first =>
      have H17 := Lib.hid H10.out.drew
      clear H10
      refine wp_region_turns (.s 0 (.s 1 (.b 2 (.b 3 (.h 4 (.h 5 .nil)) 4 (.h 3 (.h 5 .nil))) 4 (.h 2 (.h 3 (.h 5 .nil)))))) 5 (fun W' => W'.heap[w.heap.size]? = some (.cells #[.pointer (some ⟨bp, 0, none⟩)] 76 (0, 0))) (by kernel_rfl) (by kernel_rfl) (fun c a d v w h => by cases d <;> exact h) (H17.out.at (by simp)) ?_
      generalize hW : W9.drew = W18 at H17 ⊢
      clear hW
      refine turn_steady (.pointer (some ⟨bp, 0, none⟩)) rfl rfl (fun W' hS => ?_) ?_
      · try unfold tokV
        try unfold ptr
        have hS0 := hS
        obtain ⟨s00, s01⟩ := one_facts hS0
        clear hS0
        go_simp
      refine turn_steady (.pointer (some ⟨bp, 0, none⟩)) rfl rfl (fun W' hS => ?_) ?_
      · try unfold tokV
        try unfold ptr
        have hS0 := hS
        obtain ⟨s00, s01⟩ := one_facts hS0
        clear hS0
        go_simp
      refine turn_both rfl rfl (fun K19 hK19 => ?_) (fun K20 hK20 => ?_)
      · try unfold tokV ptr
        go_wp2_with fail
        have Hc21 := Lib.hid (name_any bp en ts5 (dp) W18 H17.out.ps)
        try unfold ptr at Hc21
        refine Hc21.out.mono ?_
        rintro e w22 ⟨rfl, hb⟩
        have H23 := Lib.hid (H17.out.below hb)
        clear hb Hc21 H17
        go_wp2_with fail
        refine hK19 _ _ (fun _ => H23.out.at (by simp)) ?_
        refine turn_both rfl rfl (fun K24 hK24 => ?_) (fun K25 hK25 => ?_)
        · try unfold tokV ptr
          go_wp2_with fail
          have hne : (pTake en (isNameT en ts5)) ts5 (dp) ≠ .out := fun h => Hr.out (Hsp16.out.trans (bind_out h))
          have Hc26 := Lib.hid (take_any bp (isNameT en ts5) en ts5 (dp) w22 H23.out.ps hne)
          try unfold ptr at Hc26
          clear hne
          refine Hc26.out.mono ?_
          rintro e w27 ⟨hg, hq⟩
          cases hm : (pTake en (isNameT en ts5)) ts5 (dp) with
          | out => exact absurd (Hsp16.out.trans (bind_out hm)) Hr.out
          | err ex el ec =>
            rw [hm] at hq
            obtain rfl := hq
            have Hf : Hid (pRule en L ts dp = .err ex el ec) := Lib.hid (Hsp16.out.trans (bind_err hm))
            clear hm
            refine ⟨rfl, ?_⟩
            rw [Hf.out]
            exact ⟨grownBy_trans H23.out.grown hg, rfl⟩
          | ok x31 ts30 dq =>
            have hdq : dp = dq := by have := Inc.take _ _ _ _ _ _ hm; omega
            subst hdq
            rw [hm] at hq
            obtain ⟨hps, v, rfl, rfl⟩ := hq
            have H28 := Lib.hid (H23.out.call hg hps)
            try unfold tokV
            have Hsp29 := Lib.hid (Hsp16.out.trans (bind_ok hm))
            clear hm hg hps Hc26 H23 Hsp16
            go_wp2_with fail
            refine hK24 _ _ (fun _ => H28.out.at (by simp)) ?_
            refine turn_heavy rfl (fun K32 hK32 => ?_)
            try unfold tokV ptr
            go_wp2_with fail
            have H33 := Lib.hid (H28.out.alloc #[.int .i64 0, .string ⟨#[]⟩, .int .i64 0, .int .i64 0] 81)
            clear H28
            generalize hW : w27.alloc (.cells #[.int .i64 0, .string ⟨#[]⟩, .int .i64 0, .int .i64 0] 81) = W35 at H33 ⊢
            clear hW
            generalize hb : w27.heap.size = b34 at H33 ⊢
            clear hb
            refine hK32 _ _ (fun _ => H33.out.at (by simp)) ?_
            obtain ⟨r36, r37, r38, r39, r40, r41, r42, r43, r44⟩ := four_wfacts (H33.out.at (b := b34) (cs := #[.int .i64 0, .string ⟨#[]⟩, .int .i64 0, .int .i64 0]) (T := 81) (by simp))
            refine turn_heavy rfl (fun K45 hK45 => ?_)
            try unfold tokV ptr
            go_wp2_with fail
            have H46 := Lib.hid (H33.out.put4 0 rfl (.int .i64 x31.kind) (.string x31.text) (.int .i64 x31.line) (.int .i64 x31.col))
            refine hK45 _ _ (fun h => absurd rfl h) ?_
            refine turn_end ?_
            go_wp2_with fail
            go_meet
            case rel => exact ⟨x31, ts30, b34, rfl, Hsp29, H46⟩
        · try unfold tokV ptr
          go_wp2_with fail
          have H47 := Lib.hid (H23.out.alloc #[.int .i64 0, .string ⟨#[]⟩, .int .i64 0, .int .i64 0] 81)
          clear H23
          generalize hW : w22.alloc (.cells #[.int .i64 0, .string ⟨#[]⟩, .int .i64 0, .int .i64 0] 81) = W49 at H47 ⊢
          clear hW
          generalize hb : w22.heap.size = b48 at H47 ⊢
          clear hb
          refine hK25 _ _ (fun _ => H47.out.at (by simp)) ?_
          refine turn_heavy rfl (fun K50 hK50 => ?_)
          try unfold tokV ptr
          go_wp2_with fail
          have hne : (pTake en (isNameT en ts5)) ts5 (dp) ≠ .out := fun h => Hr.out (Hsp16.out.trans (bind_out h))
          have Hc51 := Lib.hid (take_any bp (isNameT en ts5) en ts5 (dp) W49 H47.out.ps hne)
          try unfold ptr at Hc51
          clear hne
          refine Hc51.out.mono ?_
          rintro e w52 ⟨hg, hq⟩
          cases hm : (pTake en (isNameT en ts5)) ts5 (dp) with
          | out => exact absurd (Hsp16.out.trans (bind_out hm)) Hr.out
          | err ex el ec =>
            rw [hm] at hq
            obtain rfl := hq
            have Hf : Hid (pRule en L ts dp = .err ex el ec) := Lib.hid (Hsp16.out.trans (bind_err hm))
            clear hm
            refine ⟨rfl, ?_⟩
            rw [Hf.out]
            exact ⟨grownBy_trans H47.out.grown hg, rfl⟩
          | ok x56 ts55 dq =>
            have hdq : dp = dq := by have := Inc.take _ _ _ _ _ _ hm; omega
            subst hdq
            rw [hm] at hq
            obtain ⟨hps, v, rfl, rfl⟩ := hq
            have H53 := Lib.hid (H47.out.call hg hps)
            try unfold tokV
            have Hsp54 := Lib.hid (Hsp16.out.trans (bind_ok hm))
            clear hm hg hps Hc51 H47 Hsp16
            go_wp2_with fail
            refine hK50 _ _ (fun _ => H53.out.at (by simp)) ?_
            obtain ⟨r57, r58, r59, r60, r61, r62, r63, r64, r65⟩ := four_wfacts (H53.out.at (b := b48) (cs := #[.int .i64 0, .string ⟨#[]⟩, .int .i64 0, .int .i64 0]) (T := 81) (by simp))
            refine turn_heavy rfl (fun K66 hK66 => ?_)
            try unfold tokV ptr
            go_wp2_with fail
            have H67 := Lib.hid (H53.out.put4 0 rfl (.int .i64 x56.kind) (.string x56.text) (.int .i64 x56.line) (.int .i64 x56.col))
            refine hK66 _ _ (fun h => absurd rfl h) ?_
            refine turn_end ?_
            go_wp2_with fail
            go_meet
            case rel => exact ⟨x56, ts55, b48, rfl, Hsp54, H67⟩
      · try unfold tokV ptr
        go_wp2_with fail
        have H68 := Lib.hid (H17.out.alloc #[.int .i64 0, .string ⟨#[]⟩, .int .i64 0, .int .i64 0] 81)
        clear H17
        generalize hW : W18.alloc (.cells #[.int .i64 0, .string ⟨#[]⟩, .int .i64 0, .int .i64 0] 81) = W70 at H68 ⊢
        clear hW
        generalize hb : W18.heap.size = b69 at H68 ⊢
        clear hb
        refine hK20 _ _ (fun _ => H68.out.at (by simp)) ?_
        refine turn_heavy rfl (fun K71 hK71 => ?_)
        try unfold tokV ptr
        go_wp2_with fail
        have Hc72 := Lib.hid (name_any bp en ts5 (dp) W70 H68.out.ps)
        try unfold ptr at Hc72
        refine Hc72.out.mono ?_
        rintro e w73 ⟨rfl, hb⟩
        have H74 := Lib.hid (H68.out.below hb)
        clear hb Hc72 H68
        go_wp2_with fail
        refine hK71 _ _ (fun _ => H74.out.at (by simp)) ?_
        refine turn_heavy rfl (fun K75 hK75 => ?_)
        try unfold tokV ptr
        go_wp2_with fail
        have hne : (pTake en (isNameT en ts5)) ts5 (dp) ≠ .out := fun h => Hr.out (Hsp16.out.trans (bind_out h))
        have Hc76 := Lib.hid (take_any bp (isNameT en ts5) en ts5 (dp) w73 H74.out.ps hne)
        try unfold ptr at Hc76
        clear hne
        refine Hc76.out.mono ?_
        rintro e w77 ⟨hg, hq⟩
        cases hm : (pTake en (isNameT en ts5)) ts5 (dp) with
        | out => exact absurd (Hsp16.out.trans (bind_out hm)) Hr.out
        | err ex el ec =>
          rw [hm] at hq
          obtain rfl := hq
          have Hf : Hid (pRule en L ts dp = .err ex el ec) := Lib.hid (Hsp16.out.trans (bind_err hm))
          clear hm
          refine ⟨rfl, ?_⟩
          rw [Hf.out]
          exact ⟨grownBy_trans H74.out.grown hg, rfl⟩
        | ok x81 ts80 dq =>
          have hdq : dp = dq := by have := Inc.take _ _ _ _ _ _ hm; omega
          subst hdq
          rw [hm] at hq
          obtain ⟨hps, v, rfl, rfl⟩ := hq
          have H78 := Lib.hid (H74.out.call hg hps)
          try unfold tokV
          have Hsp79 := Lib.hid (Hsp16.out.trans (bind_ok hm))
          clear hm hg hps Hc76 H74 Hsp16
          go_wp2_with fail
          refine hK75 _ _ (fun _ => H78.out.at (by simp)) ?_
          obtain ⟨r82, r83, r84, r85, r86, r87, r88, r89, r90⟩ := four_wfacts (H78.out.at (b := b69) (cs := #[.int .i64 0, .string ⟨#[]⟩, .int .i64 0, .int .i64 0]) (T := 81) (by simp))
          refine turn_heavy rfl (fun K91 hK91 => ?_)
          try unfold tokV ptr
          go_wp2_with fail
          have H92 := Lib.hid (H78.out.put4 0 rfl (.int .i64 x81.kind) (.string x81.text) (.int .i64 x81.line) (.int .i64 x81.col))
          refine hK91 _ _ (fun h => absurd rfl h) ?_
          refine turn_end ?_
          go_wp2_with fail
          go_meet
          case rel => exact ⟨x81, ts80, b69, rfl, Hsp79, H92⟩
    case rest =>
      obtain ⟨t93, ts94, b95, hv98, Hsp96, H97⟩ := hcut
      subst hv98
      clear Hsp16 H10
      rename World => w99
      have hne : (pEat en [40]) ts94 (dp) ≠ .out := fun h => Hr.out (Hsp96.out.trans (bind_out h))
      have Hc100 := Lib.hid (eat_any bp ⟨#[40]⟩ en ts94 (dp) w99 H97.out.ps hne)
      try unfold ptr at Hc100
      clear hne
      obtain ⟨r106, r107⟩ := one_facts (H97.out.at (b := w.heap.size) (cs := #[.pointer (some ⟨bp, 0, none⟩)]) (T := 76) (by simp))
      go_wp2_with fail
      clear r106 r107
      refine Hc100.out.mono ?_
      rintro e w101 ⟨hg, hq⟩
      cases hm : (pEat en [40]) ts94 (dp) with
      | out => exact absurd (Hsp96.out.trans (bind_out hm)) Hr.out
      | err ex el ec =>
        rw [hm] at hq
        obtain rfl := hq
        have Hf : Hid (pRule en L ts dp = .err ex el ec) := Lib.hid (Hsp96.out.trans (bind_err hm))
        clear hm
        refine ⟨rfl, ?_⟩
        rw [Hf.out]
        exact ⟨grownBy_trans H97.out.grown hg, rfl⟩
      | ok x105 ts104 dq =>
        have hdq : dp = dq := by have := Inc.eat _ _ _ _ _ _ hm; omega
        subst hdq
        rw [hm] at hq
        obtain ⟨hps, v, rfl, -⟩ := hq
        have H102 := Lib.hid (H97.out.call hg hps)
        have Hsp103 := Lib.hid (Hsp96.out.trans (bind_ok hm))
        clear hm hg hps Hc100 H97 Hsp96
        obtain ⟨i0, hi, hz0, hz1, hz2⟩ := info_parts infoNode
        have hne : (pList en [41] (pOne (pParam en L))) ts104 (dp) ≠ .out := fun h => Hr.out (Hsp103.out.trans (bind_out h))
        have Hc108 := Lib.hid (list_own bp ⟨#[41]⟩ 100 #[] #[.pointer (some ⟨w.heap.size, 0, none⟩)] (pOne (pParam en L)) en ts104 (dp) w101 (by omega) (by omega) H102.out.ps (by intro args w; rfl) (fun w1 ts1 hg hp' hr' => rule1_any bp w.heap.size en L (Inc.param hL) Hx.out w1 (H102.out.later hg (by simp [ptr])) ts1 (dp) hp' (by omega) (by omega) hr') (Inc.one (Inc.param hL)) pure_one hne)
        try unfold ptr at Hc108
        clear hne
        obtain ⟨r114, r115⟩ := one_facts (H102.out.at (b := w.heap.size) (cs := #[.pointer (some ⟨bp, 0, none⟩)]) (T := 76) (by simp))
        go_wp2_with fail
        clear r114 r115
        refine Hc108.out.mono ?_
        rintro e w109 ⟨hg, hq⟩
        cases hm : (pList en [41] (pOne (pParam en L))) ts104 (dp) with
        | out => exact absurd (Hsp103.out.trans (bind_out hm)) Hr.out
        | err ex el ec =>
          rw [hm] at hq
          obtain rfl := hq
          have Hf : Hid (pRule en L ts dp = .err ex el ec) := Lib.hid (Hsp103.out.trans (bind_err hm))
          clear hm
          refine ⟨rfl, ?_⟩
          rw [Hf.out]
          exact ⟨grownBy_trans H102.out.grown hg, rfl⟩
        | ok x113 ts112 dq =>
          have hdq : dp = dq := by have := Inc.list (Inc.one (Inc.param hL)) _ _ _ _ _ hm; omega
          subst hdq
          rw [hm] at hq
          obtain ⟨hps, v116, rfl, hv⟩ := hq
          have hkl118 := hv.2
          have H110 := Lib.hid (PO.ofOwn H102.out hg hps hv)
          clear hv
          have Hsp111 := Lib.hid (Hsp103.out.trans (bind_ok hm))
          clear hm hg hps Hc108 H102 Hsp103
          have hne : (pEat en [41]) ts112 (dp) ≠ .out := fun h => Hr.out (Hsp111.out.trans (bind_out h))
          have Hc119 := Lib.hid (eat_any bp ⟨#[41]⟩ en ts112 (dp) w109 H110.out.ps hne)
          try unfold ptr at Hc119
          clear hne
          obtain ⟨r125, r126⟩ := one_facts (H110.out.at (b := w.heap.size) (cs := #[.pointer (some ⟨bp, 0, none⟩)]) (T := 76) (by simp))
          go_wp2_with fail
          clear r125 r126
          refine Hc119.out.mono ?_
          rintro e w120 ⟨hg, hq⟩
          cases hm : (pEat en [41]) ts112 (dp) with
          | out => exact absurd (Hsp111.out.trans (bind_out hm)) Hr.out
          | err ex el ec =>
            rw [hm] at hq
            obtain rfl := hq
            have Hf : Hid (pRule en L ts dp = .err ex el ec) := Lib.hid (Hsp111.out.trans (bind_err hm))
            clear hm
            refine ⟨rfl, ?_⟩
            rw [Hf.out]
            exact ⟨grownBy_trans H110.out.grown hg, rfl⟩
          | ok x124 ts123 dq =>
            have hdq : dp = dq := by have := Inc.eat _ _ _ _ _ _ hm; omega
            subst hdq
            rw [hm] at hq
            obtain ⟨hps, v, rfl, -⟩ := hq
            have H121 := Lib.hid (H110.out.call hg hps)
            have Hsp122 := Lib.hid (Hsp111.out.trans (bind_ok hm))
            clear hm hg hps Hc119 H110 Hsp111
            have H127 := Lib.hid H121.out.drew
            clear H121
            go_wp2_with fail
            refine wp_region_turns (.s 0 (.s 1 (.s 2 (.s 3 (.s 4 (.h 5 (.h 6 (.h 7 (.h 8 (.h 9 .nil)))))))))) 9 (fun W' => W'.heap[b11]? = some (.cells #[.int .i64 x6.kind, .string x6.text, .int .i64 x6.line, .int .i64 x6.col] 81 (0, 0)) ∧ W'.heap[b95]? = some (.cells #[.int .i64 t93.kind, .string t93.text, .int .i64 t93.line, .int .i64 t93.col] 81 (0, 0)) ∧ W'.heap[w.heap.size]? = some (.cells #[.pointer (some ⟨bp, 0, none⟩)] 76 (0, 0))) (by kernel_rfl) (by kernel_rfl) (fun c a d v w h => by cases d <;> exact h) (⟨H127.out.at (by simp), H127.out.at (by simp), H127.out.at (by simp)⟩) ?_
            refine turn_steady (tokV x6) rfl rfl (fun W' hS => ?_) ?_
            · try unfold tokV
              try unfold ptr
              obtain ⟨hS0, hS1, hS2⟩ := hS
              obtain ⟨s00, s01, s02, s03, s04⟩ := four_facts hS0
              clear hS0
              obtain ⟨s10, s11, s12, s13, s14⟩ := four_facts hS1
              clear hS1
              obtain ⟨s20, s21⟩ := one_facts hS2
              clear hS2
              go_simp
            refine turn_steady (.pointer (some ⟨b95, 1, none⟩)) rfl rfl (fun W' hS => ?_) ?_
            · try unfold tokV
              try unfold ptr
              obtain ⟨hS0, hS1, hS2⟩ := hS
              obtain ⟨s00, s01, s02, s03, s04⟩ := four_facts hS0
              clear hS0
              obtain ⟨s10, s11, s12, s13, s14⟩ := four_facts hS1
              clear hS1
              obtain ⟨s20, s21⟩ := one_facts hS2
              clear hS2
              go_simp
            refine turn_steady (.string t93.text) rfl rfl (fun W' hS => ?_) ?_
            · try unfold tokV
              try unfold ptr
              obtain ⟨hS0, hS1, hS2⟩ := hS
              obtain ⟨s00, s01, s02, s03, s04⟩ := four_facts hS0
              clear hS0
              obtain ⟨s10, s11, s12, s13, s14⟩ := four_facts hS1
              clear hS1
              obtain ⟨s20, s21⟩ := one_facts hS2
              clear hS2
              go_simp
            refine turn_steady (v116) rfl rfl (fun W' hS => ?_) ?_
            · try unfold tokV
              try unfold ptr
              obtain ⟨hS0, hS1, hS2⟩ := hS
              obtain ⟨s00, s01, s02, s03, s04⟩ := four_facts hS0
              clear hS0
              obtain ⟨s10, s11, s12, s13, s14⟩ := four_facts hS1
              clear hS1
              obtain ⟨s20, s21⟩ := one_facts hS2
              clear hS2
              go_simp
            refine turn_steady (.pointer (some ⟨bp, 0, none⟩)) rfl rfl (fun W' hS => ?_) ?_
            · try unfold tokV
              try unfold ptr
              obtain ⟨hS0, hS1, hS2⟩ := hS
              obtain ⟨s00, s01, s02, s03, s04⟩ := four_facts hS0
              clear hS0
              obtain ⟨s10, s11, s12, s13, s14⟩ := four_facts hS1
              clear hS1
              obtain ⟨s20, s21⟩ := one_facts hS2
              clear hS2
              go_simp
            refine turn_heavy rfl (fun K128 hK128 => ?_)
            try unfold tokV ptr
            go_wp2_with fail
            have hne : (pBlock en L) ts123 (dp) ≠ .out := fun h => Hr.out (Hsp122.out.trans (bind_out h))
            have Hc129 := Lib.hid (Hb0.out w120.drew ts123 (dp) H127.out.ps (by omega) (by omega) hne)
            try unfold ptr at Hc129
            clear hne
            refine Hc129.out.mono ?_
            rintro e w130 ⟨hg, hq⟩
            cases hm : (pBlock en L) ts123 (dp) with
            | out => exact absurd (Hsp122.out.trans (bind_out hm)) Hr.out
            | err ex el ec =>
              rw [hm] at hq
              obtain rfl := hq
              have Hf : Hid (pRule en L ts dp = .err ex el ec) := Lib.hid (Hsp122.out.trans (bind_err hm))
              clear hm
              refine ⟨rfl, ?_⟩
              rw [Hf.out]
              exact ⟨grownBy_trans H127.out.grown hg, rfl⟩
            | ok x134 ts133 dq =>
              have hdq : dp = dq := by have := Inc.block hL _ _ _ _ _ hm; omega
              subst hdq
              rw [hm] at hq
              obtain ⟨x134k, x134t, x134l, x134c, x134s⟩ := x134
              obtain ⟨hps, v, rfl, hv⟩ := hq
              obtain ⟨a135, cap136, rfl, hrow⟩ := NodeV.open hv
              have H131 := Lib.hid ((H127.out.call hg hps).row hrow H127.out.grown.size H127.out.lt)
              clear hv hrow
              have Hsp132 := Lib.hid (Hsp122.out.trans (bind_ok hm))
              clear hm hg hps Hc129 H127 Hsp122
              go_wp2_with fail
              refine hK128 _ _ (fun _ => ⟨H131.out.at (by simp), H131.out.at (by simp), H131.out.at (by simp)⟩) ?_
              refine turn_heavy rfl (fun K137 hK137 => ?_)
              try unfold tokV ptr
              go_wp2_with fail
              have H138 := Lib.hid (H131.out.lit 51 [[.int .i64 x134k, .string x134t, .int .i64 x134l, .int .i64 x134c, .slice a135 x134s.length cap136]] [.mk x134k x134t x134l x134c x134s] rfl (by simp) rfl (fun j n c hj hc => by
                have hjl := (List.getElem?_eq_some_iff.1 hc).1
                simp only [List.length_cons, List.length_nil] at hjl
                obtain rfl : j = 0 := by omega
                · simp at hj hc
                  subst hj hc
                  exact ⟨_, _, _, _, _, _, _, rfl, rfl, .inl (by simp)⟩))
              clear H131
              refine hK137 _ _ (fun _ => ⟨H138.out.at (by simp), H138.out.at (by simp), H138.out.at (by simp)⟩) ?_
              refine turn_heavy rfl (fun K139 hK139 => ?_)
              try unfold tokV ptr
              simp only [Act.put, List.setIfInBounds_toArray, List.set_cons_zero, List.set_cons_succ, List.getElem_toArray, List.getElem_cons_succ, List.getElem_cons_zero]
              go_wp2_with (at_builtin; refine wpList_append_row rfl _ _ 49 rfl w.heap.size 51 i0 _ 5 64 Tryz.underlying49 hi hz0 hz1 hz2 rfl (by decide) v116 (PF w [(b95, #[.int .i64 t93.kind, .string t93.text, .int .i64 t93.line, .int .i64 t93.col], 81), (b11, #[.int .i64 x6.kind, .string x6.text, .int .i64 x6.line, .int .i64 x6.col], 81), (w.heap.size + 1, #[.int .i64 0, .string ⟨#[]⟩, .int .i64 0, .int .i64 0, .slice none 0 0], 51), (w.heap.size, #[.pointer (some ⟨bp, 0, none⟩)], 76)]) (nodesD (x113)) rfl H138.out.od w130.heap.size 0 1 (nodesD [.mk x134k x134t x134l x134c x134s]) ?_ (H138.out.rd ((some ⟨w130.heap.size, 0, none⟩), [.mk x134k x134t x134l x134c x134s]) (by simp)) (nodesD_all nodeD_len _) (nodesD_all nodeD_plain _) ?_ ?_ ?_ ?_)
              · rw [nodesD_len]; rfl
              · rw [nodesD_len, nodesD_len]; unfold maxLen; simp only [List.length_append, List.length_cons, List.length_nil]; omega
              · rw [nodesD_len, nodesD_len]; simp only [List.length_append, List.length_cons, List.length_nil]; omega
              · exact H138.out.grown.size
              intro v140 w141 hown4 hgrow4 hor4
              have H142 := Lib.hid (H138.out.grew hown4 hgrow4 (fun g hg => (hor4 g hg).imp id (fun h => by simpa using h)))
              clear hown4 hgrow4 hor4 H138
              go_wp2_with fail
              refine hK139 _ _ (fun _ => ⟨H142.out.at (by simp), H142.out.at (by simp), H142.out.at (by simp)⟩) ?_
              refine turn_heavy rfl (fun K143 hK143 => ?_)
              try unfold tokV ptr
              go_wp2_with fail
              obtain ⟨a144, cap145, hv5⟩ := H142.out.slice
              subst hv5
              have H146 := Lib.hid H142.out.toRow
              clear H142
              have Hnd := Lib.hid (node_any 6 x6 t93.text a144 (x113 ++ ([.mk x134k x134t x134l x134c x134s] : List Nd)).length cap145 w141)
              unfold tokV nodeC at Hnd
              refine Hnd.out.mono ?_
              rintro e w147 ⟨rfl, hb⟩
              have H148 := Lib.hid (H146.out.below hb)
              clear hb Hnd H146
              go_wp2_with fail
              refine hK143 _ _ (fun _ => ⟨H148.out.at (by simp), H148.out.at (by simp), H148.out.at (by simp)⟩) ?_
              obtain ⟨r149, r150, r151, r152, r153, r154, r155, r156, r157, r158, r159⟩ := five_facts (H148.out.at (b := w.heap.size + 1) (cs := #[.int .i64 0, .string ⟨#[]⟩, .int .i64 0, .int .i64 0, .slice none 0 0]) (T := 51) (by simp))
              refine turn_heavy rfl (fun K160 hK160 => ?_)
              try unfold tokV ptr
              go_wp2_with fail
              refine hK160 _ _ (fun h => absurd rfl h) ?_
              refine turn_end ?_
              go_wp2_with fail
              refine bodyPost_ret (v := .agg #[.int .i64 6, .string t93.text, .int .i64 x6.line, .int .i64 x6.col, .slice a144 (x113 ++ ([.mk x134k x134t x134l x134c x134s] : List Nd)).length cap145]) (by simp [results, Tryz.results75, go_sem, r149, r150, r151, r152, r153, r154]) rfl ?_
              have G := Lib.hid (H148.out.put5 2 rfl (.int .i64 6) (.string t93.text) (.int .i64 x6.line) (.int .i64 x6.col) (.slice a144 (x113 ++ ([.mk x134k x134t x134l x134c x134s] : List Nd)).length cap145))
              rw [show x113.length + 1 = (x113 ++ ([.mk x134k x134t x134l x134c x134s] : List Nd)).length by simp]
              rw [Hsp132.out]
              exact ⟨G.out.grown, G.out.ps, _, rfl, NodeV.mk _ _ _ _ _ (G.out.hand (by simp [nodeT]))⟩

end Go.Proofs.YtmmflgbhgjefmaaGreatDoor
namespace Go.Proofs.YtmmflgbhgjefmaaGreatDoor
open Go Go.RowKit

set_option maxRecDepth 100000 in
set_option maxHeartbeats 8000000 in
theorem expr_any (bp : Nat) (en : Int × Int) (L : Lvl) (hi : Inc 0 (pSum en L)) (hx : Does 96 bp en VNode (pSum en L)) : Does 73 bp en VNode (pExpr en L) := by
  intro w ts dp hp hd0 hd1 hr
  have Hr := Lib.hid hr
  have Hx := Lib.hid hx
  clear hx
  have hsp : pExpr en L ts dp = PM.bind (pSum en L) (fun x => pLook fun ts => if isSign en ts 0 [61, 61] || isSign en ts 0 [33, 61] || isWordT en ts [105, 110] then PM.bind (pTake en true) fun t => PM.bind (pSum en L) fun y => PM.pure (nodeT 16 t t.text [x, y]) else PM.pure x) ts dp := rfl
  have Hsp := Lib.hid hsp
  have H0 := Lib.hid ((PI.start hp).alloc #[.int .i64 0, .string ⟨#[]⟩, .int .i64 0, .int .i64 0, .slice none 0 0] 51)
  clear hp hr hsp
  unfold ptr
  go_enter Tryz.func73, Tryz.ntmps73
  go_wp2_with fail
  have hne : (pSum en L) ts (dp) ≠ .out := fun h => Hr.out (Hsp.out.trans (bind_out h))
  have Hc1 := Lib.hid (Hx.out (w.alloc (.cells #[.int .i64 0, .string ⟨#[]⟩, .int .i64 0, .int .i64 0, .slice none 0 0] 51)) ts (dp) H0.out.ps (by omega) (by omega) hne)
  try unfold ptr at Hc1
  clear hne
  refine Hc1.out.mono ?_
  rintro e w2 ⟨hg, hq⟩
  cases hm : (pSum en L) ts (dp) with
  | out => exact absurd (Hsp.out.trans (bind_out hm)) Hr.out
  | err ex el ec =>
    rw [hm] at hq
    obtain rfl := hq
    have Hf : Hid (pExpr en L ts dp = .err ex el ec) := Lib.hid (Hsp.out.trans (bind_err hm))
    clear hm
    refine ⟨rfl, ?_⟩
    rw [Hf.out]
    exact ⟨grownBy_trans H0.out.grown hg, rfl⟩
  | ok x6 ts5 dq =>
    have hdq : dp = dq := by have := hi _ _ _ _ _ hm; omega
    subst hdq
    rw [hm] at hq
    obtain ⟨x6k, x6t, x6l, x6c, x6s⟩ := x6
    obtain ⟨hps, v, rfl, hv⟩ := hq
    obtain ⟨a7, cap8, rfl, hrow⟩ := NodeV.open hv
    have H3 := Lib.hid ((H0.out.call hg hps).row hrow H0.out.grown.size H0.out.lt)
    clear hv hrow
    have Hsp4 := Lib.hid (Hsp.out.trans (bind_ok hm))
    clear hm hg hps Hc1 H0 Hsp
    have H10 := Lib.hid (H3.out.alloc #[.int .i64 x6k, .string x6t, .int .i64 x6l, .int .i64 x6c, .slice a7 x6s.length cap8] 51)
    clear H3
    obtain ⟨W9, hW⟩ : ∃ X, X = w2.alloc (.cells #[.int .i64 x6k, .string x6t, .int .i64 x6l, .int .i64 x6c, .slice a7 x6s.length cap8] 51) := ⟨_, rfl⟩
    rw [← hW] at H10
    have HW12 := Lib.hid hW
    clear hW
    generalize hb : w2.heap.size = b11 at H10
    have Hb13 := Lib.hid hb
    clear hb
    go_wp2_with fail
    rw [← HW12.out, Hb13.out]
    clear HW12 Hb13
    have Hsp14 : Hid (pExpr en L ts dp = (if isSign en ts5 0 [61, 61] || isSign en ts5 0 [33, 61] || isWordT en ts5 [105, 110] then PM.bind (pTake en true) fun t => PM.bind (pSum en L) fun y => PM.pure (nodeT 16 t t.text [.mk x6k x6t x6l x6c x6s, y]) else PM.pure (.mk x6k x6t x6l x6c x6s)) ts5 dp) := Lib.hid (by rw [Hsp4.out] <;> rfl)
    clear Hsp4
    have Hc15 := Lib.hid (sign_any bp 0 ⟨#[61, 61]⟩ en ts5 (dp) W9 (by omega) H10.out.ps)
    try unfold ptr at Hc15
    refine Hc15.out.mono ?_
    rintro e w16 ⟨rfl, hb⟩
    have H17 := Lib.hid (H10.out.below hb)
    clear hb Hc15 H10
    cases h1 : isSign en ts5 0 [61, 61]
    · try rw [h1]
      have Hc18 := Lib.hid (sign_any bp 0 ⟨#[33, 61]⟩ en ts5 (dp) w16 (by omega) H17.out.ps)
      try unfold ptr at Hc18
      go_wp2_with fail
      refine Hc18.out.mono ?_
      rintro e w19 ⟨rfl, hb⟩
      have H20 := Lib.hid (H17.out.below hb)
      clear hb Hc18 H17
      cases h2 : isSign en ts5 0 [33, 61]
      · try rw [h2]
        have Hc21 := Lib.hid (word_any bp ⟨#[105, 110]⟩ en ts5 (dp) w19 H20.out.ps)
        try unfold ptr at Hc21
        go_wp2_with fail
        refine Hc21.out.mono ?_
        rintro e w22 ⟨rfl, hb⟩
        have H23 := Lib.hid (H20.out.below hb)
        clear hb Hc21 H20
        cases h3 : isWordT en ts5 [105, 110]
        · try rw [h3]
          have Hsp24 : Hid (pExpr en L ts dp = PM.pure (.mk x6k x6t x6l x6c x6s) ts5 dp) := Lib.hid (by rw [Hsp14.out, h1, h2, h3] <;> rfl)
          clear Hsp14
          obtain ⟨r25, r26, r27, r28, r29, r30, r31, r32, r33, r34, r35⟩ := five_facts (H23.out.at (b := b11) (cs := #[.int .i64 x6k, .string x6t, .int .i64 x6l, .int .i64 x6c, .slice a7 x6s.length cap8]) (T := 51) (by simp))
          obtain ⟨r36, r37, r38, r39, r40, r41, r42, r43, r44, r45, r46⟩ := five_facts (H23.out.at (b := w.heap.size) (cs := #[.int .i64 0, .string ⟨#[]⟩, .int .i64 0, .int .i64 0, .slice none 0 0]) (T := 51) (by simp))
          go_wp2_with fail
          refine bodyPost_ret (v := .agg #[.int .i64 x6k, .string x6t, .int .i64 x6l, .int .i64 x6c, .slice a7 x6s.length cap8]) (by simp [results, Tryz.results73, go_sem, r36, r37, r38, r39, r40, r41]) rfl ?_
          have G := Lib.hid (H23.out.put5 1 rfl (.int .i64 x6k) (.string x6t) (.int .i64 x6l) (.int .i64 x6c) (.slice a7 x6s.length cap8))
          rw [Hsp24.out]
          exact ⟨G.out.grown, G.out.ps, _, rfl, NodeV.mk _ _ _ _ _ (G.out.hand (by simp))⟩
        · try rw [h3]
          have Hsp47 : Hid (pExpr en L ts dp = PM.bind (pTake en true) (fun t => PM.bind (pSum en L) fun y => PM.pure (nodeT 16 t t.text [.mk x6k x6t x6l x6c x6s, y])) ts5 dp) := Lib.hid (by rw [Hsp14.out, h1, h2, h3] <;> rfl)
          clear Hsp14
          have hne : (pTake en true) ts5 (dp) ≠ .out := fun h => Hr.out (Hsp47.out.trans (bind_out h))
          have Hc48 := Lib.hid (take_any bp true en ts5 (dp) w22 H23.out.ps hne)
          try unfold ptr at Hc48
          clear hne
          go_wp2_with fail
          refine Hc48.out.mono ?_
          rintro e w49 ⟨hg, hq⟩
          cases hm : (pTake en true) ts5 (dp) with
          | out => exact absurd (Hsp47.out.trans (bind_out hm)) Hr.out
          | err ex el ec =>
            rw [hm] at hq
            obtain rfl := hq
            have Hf : Hid (pExpr en L ts dp = .err ex el ec) := Lib.hid (Hsp47.out.trans (bind_err hm))
            clear hm
            refine ⟨rfl, ?_⟩
            rw [Hf.out]
            exact ⟨grownBy_trans H23.out.grown hg, rfl⟩
          | ok x53 ts52 dq =>
            have hdq : dp = dq := by have := Inc.take _ _ _ _ _ _ hm; omega
            subst hdq
            rw [hm] at hq
            obtain ⟨hps, v, rfl, rfl⟩ := hq
            have H50 := Lib.hid (H23.out.call hg hps)
            try unfold tokV
            have Hsp51 := Lib.hid (Hsp47.out.trans (bind_ok hm))
            clear hm hg hps Hc48 H23 Hsp47
            have H55 := Lib.hid (H50.out.alloc #[.int .i64 x53.kind, .string x53.text, .int .i64 x53.line, .int .i64 x53.col] 81)
            clear H50
            obtain ⟨W54, hW⟩ : ∃ X, X = w49.alloc (.cells #[.int .i64 x53.kind, .string x53.text, .int .i64 x53.line, .int .i64 x53.col] 81) := ⟨_, rfl⟩
            rw [← hW] at H55
            have HW57 := Lib.hid hW
            clear hW
            generalize hb : w49.heap.size = b56 at H55
            have Hb58 := Lib.hid hb
            clear hb
            go_wp2_with fail
            rw [← HW57.out, Hb58.out]
            clear HW57 Hb58
            have H59 := Lib.hid H55.out.drew
            clear H55
            go_wp2_with fail
            refine wp_region_turns (.s 0 (.s 1 (.s 2 (.s 3 (.s 4 (.h 5 (.h 6 (.h 7 (.h 8 .nil))))))))) 8 (fun W' => W'.heap[b56]? = some (.cells #[.int .i64 x53.kind, .string x53.text, .int .i64 x53.line, .int .i64 x53.col] 81 (0, 0)) ∧ W'.heap[b11]? = some (.cells #[.int .i64 x6k, .string x6t, .int .i64 x6l, .int .i64 x6c, .slice a7 x6s.length cap8] 51 (0, 0))) (by kernel_rfl) (by kernel_rfl) (fun c a d v w h => by cases d <;> exact h) (⟨H59.out.at (by simp), H59.out.at (by simp)⟩) ?_
            refine turn_steady (tokV x53) rfl rfl (fun W' hS => ?_) ?_
            · try unfold tokV
              try unfold ptr
              obtain ⟨hS0, hS1⟩ := hS
              obtain ⟨s00, s01, s02, s03, s04⟩ := four_facts hS0
              clear hS0
              obtain ⟨s10, s11, s12, s13, s14, s15, s16, s17, s18, s19, s110⟩ := five_facts hS1
              clear hS1
              go_simp
            refine turn_steady (.pointer (some ⟨b56, 1, none⟩)) rfl rfl (fun W' hS => ?_) ?_
            · try unfold tokV
              try unfold ptr
              obtain ⟨hS0, hS1⟩ := hS
              obtain ⟨s00, s01, s02, s03, s04⟩ := four_facts hS0
              clear hS0
              obtain ⟨s10, s11, s12, s13, s14, s15, s16, s17, s18, s19, s110⟩ := five_facts hS1
              clear hS1
              go_simp
            refine turn_steady (.string x53.text) rfl rfl (fun W' hS => ?_) ?_
            · try unfold tokV
              try unfold ptr
              obtain ⟨hS0, hS1⟩ := hS
              obtain ⟨s00, s01, s02, s03, s04⟩ := four_facts hS0
              clear hS0
              obtain ⟨s10, s11, s12, s13, s14, s15, s16, s17, s18, s19, s110⟩ := five_facts hS1
              clear hS1
              go_simp
            refine turn_steady (.agg #[.int .i64 x6k, .string x6t, .int .i64 x6l, .int .i64 x6c, .slice a7 x6s.length cap8]) rfl rfl (fun W' hS => ?_) ?_
            · try unfold tokV
              try unfold ptr
              obtain ⟨hS0, hS1⟩ := hS
              obtain ⟨s00, s01, s02, s03, s04⟩ := four_facts hS0
              clear hS0
              obtain ⟨s10, s11, s12, s13, s14, s15, s16, s17, s18, s19, s110⟩ := five_facts hS1
              clear hS1
              go_simp
            refine turn_steady (ptr bp) rfl rfl (fun W' hS => ?_) ?_
            · try unfold tokV
              try unfold ptr
              obtain ⟨hS0, hS1⟩ := hS
              obtain ⟨s00, s01, s02, s03, s04⟩ := four_facts hS0
              clear hS0
              obtain ⟨s10, s11, s12, s13, s14, s15, s16, s17, s18, s19, s110⟩ := five_facts hS1
              clear hS1
              go_simp
            refine turn_heavy rfl (fun K60 hK60 => ?_)
            try unfold tokV ptr
            go_wp2_with fail
            have hne : (pSum en L) ts52 (dp) ≠ .out := fun h => Hr.out (Hsp51.out.trans (bind_out h))
            have Hc61 := Lib.hid (Hx.out W54.drew ts52 (dp) H59.out.ps (by omega) (by omega) hne)
            try unfold ptr at Hc61
            clear hne
            refine Hc61.out.mono ?_
            rintro e w62 ⟨hg, hq⟩
            cases hm : (pSum en L) ts52 (dp) with
            | out => exact absurd (Hsp51.out.trans (bind_out hm)) Hr.out
            | err ex el ec =>
              rw [hm] at hq
              obtain rfl := hq
              have Hf : Hid (pExpr en L ts dp = .err ex el ec) := Lib.hid (Hsp51.out.trans (bind_err hm))
              clear hm
              refine ⟨rfl, ?_⟩
              rw [Hf.out]
              exact ⟨grownBy_trans H59.out.grown hg, rfl⟩
            | ok x66 ts65 dq =>
              have hdq : dp = dq := by have := hi _ _ _ _ _ hm; omega
              subst hdq
              rw [hm] at hq
              obtain ⟨x66k, x66t, x66l, x66c, x66s⟩ := x66
              obtain ⟨hps, v, rfl, hv⟩ := hq
              obtain ⟨a67, cap68, rfl, hrow⟩ := NodeV.open hv
              have H63 := Lib.hid ((H59.out.call hg hps).row hrow H59.out.grown.size H59.out.lt)
              clear hv hrow
              have Hsp64 := Lib.hid (Hsp51.out.trans (bind_ok hm))
              clear hm hg hps Hc61 H59 Hsp51
              go_wp2_with fail
              refine hK60 _ _ (fun _ => ⟨H63.out.at (by simp), H63.out.at (by simp)⟩) ?_
              refine turn_heavy rfl (fun K69 hK69 => ?_)
              try unfold tokV ptr
              go_wp2_with fail
              have H70 := Lib.hid (H63.out.lit 51 [[.int .i64 x6k, .string x6t, .int .i64 x6l, .int .i64 x6c, .slice a7 x6s.length cap8], [.int .i64 x66k, .string x66t, .int .i64 x66l, .int .i64 x66c, .slice a67 x66s.length cap68]] [.mk x6k x6t x6l x6c x6s, .mk x66k x66t x66l x66c x66s] rfl (by simp) rfl (fun j n c hj hc => by
                have hjl := (List.getElem?_eq_some_iff.1 hc).1
                simp only [List.length_cons, List.length_nil] at hjl
                obtain rfl | rfl : j = 0 ∨ j = 1 := by omega
                · simp at hj hc
                  subst hj hc
                  exact ⟨_, _, _, _, _, _, _, rfl, rfl, .inl (by simp)⟩
                · simp at hj hc
                  subst hj hc
                  exact ⟨_, _, _, _, _, _, _, rfl, rfl, .inl (by simp)⟩))
              clear H63
              refine hK69 _ _ (fun _ => ⟨H70.out.at (by simp), H70.out.at (by simp)⟩) ?_
              refine turn_heavy rfl (fun K71 hK71 => ?_)
              try unfold tokV ptr
              go_wp2_with fail
              have Hnd := Lib.hid (node_any 16 x53 x53.text (some ⟨w62.heap.size, 0, none⟩) 2 2 (w62.alloc (.cells #[.int .i64 x6k, .string x6t, .int .i64 x6l, .int .i64 x6c, .slice a7 x6s.length cap8, .int .i64 x66k, .string x66t, .int .i64 x66l, .int .i64 x66c, .slice a67 x66s.length cap68] 51)))
              unfold tokV nodeC at Hnd
              refine Hnd.out.mono ?_
              rintro e w72 ⟨rfl, hb⟩
              have H73 := Lib.hid (H70.out.below hb)
              clear hb Hnd H70
              go_wp2_with fail
              refine hK71 _ _ (fun _ => ⟨H73.out.at (by simp), H73.out.at (by simp)⟩) ?_
              obtain ⟨r74, r75, r76, r77, r78, r79, r80, r81, r82, r83, r84⟩ := five_facts (H73.out.at (b := w.heap.size) (cs := #[.int .i64 0, .string ⟨#[]⟩, .int .i64 0, .int .i64 0, .slice none 0 0]) (T := 51) (by simp))
              refine turn_heavy rfl (fun K85 hK85 => ?_)
              try unfold tokV ptr
              go_wp2_with fail
              refine hK85 _ _ (fun h => absurd rfl h) ?_
              refine turn_end ?_
              go_wp2_with fail
              refine bodyPost_ret (v := .agg #[.int .i64 16, .string x53.text, .int .i64 x53.line, .int .i64 x53.col, .slice (some ⟨w62.heap.size, 0, none⟩) 2 2]) (by simp [results, Tryz.results73, go_sem, r74, r75, r76, r77, r78, r79]) rfl ?_
              have G := Lib.hid (H73.out.put5 2 rfl (.int .i64 16) (.string x53.text) (.int .i64 x53.line) (.int .i64 x53.col) (.slice (some ⟨w62.heap.size, 0, none⟩) 2 2))
              rw [Hsp64.out]
              exact ⟨G.out.grown, G.out.ps, _, rfl, NodeV.mk _ _ _ _ _ (G.out.hand (by simp))⟩
      · try rw [h2]
        have Hsp86 : Hid (pExpr en L ts dp = PM.bind (pTake en true) (fun t => PM.bind (pSum en L) fun y => PM.pure (nodeT 16 t t.text [.mk x6k x6t x6l x6c x6s, y])) ts5 dp) := Lib.hid (by rw [Hsp14.out, h1, h2] <;> rfl)
        clear Hsp14
        have hne : (pTake en true) ts5 (dp) ≠ .out := fun h => Hr.out (Hsp86.out.trans (bind_out h))
        have Hc87 := Lib.hid (take_any bp true en ts5 (dp) w19 H20.out.ps hne)
        try unfold ptr at Hc87
        clear hne
        go_wp2_with fail
        refine Hc87.out.mono ?_
        rintro e w88 ⟨hg, hq⟩
        cases hm : (pTake en true) ts5 (dp) with
        | out => exact absurd (Hsp86.out.trans (bind_out hm)) Hr.out
        | err ex el ec =>
          rw [hm] at hq
          obtain rfl := hq
          have Hf : Hid (pExpr en L ts dp = .err ex el ec) := Lib.hid (Hsp86.out.trans (bind_err hm))
          clear hm
          refine ⟨rfl, ?_⟩
          rw [Hf.out]
          exact ⟨grownBy_trans H20.out.grown hg, rfl⟩
        | ok x92 ts91 dq =>
          have hdq : dp = dq := by have := Inc.take _ _ _ _ _ _ hm; omega
          subst hdq
          rw [hm] at hq
          obtain ⟨hps, v, rfl, rfl⟩ := hq
          have H89 := Lib.hid (H20.out.call hg hps)
          try unfold tokV
          have Hsp90 := Lib.hid (Hsp86.out.trans (bind_ok hm))
          clear hm hg hps Hc87 H20 Hsp86
          have H94 := Lib.hid (H89.out.alloc #[.int .i64 x92.kind, .string x92.text, .int .i64 x92.line, .int .i64 x92.col] 81)
          clear H89
          obtain ⟨W93, hW⟩ : ∃ X, X = w88.alloc (.cells #[.int .i64 x92.kind, .string x92.text, .int .i64 x92.line, .int .i64 x92.col] 81) := ⟨_, rfl⟩
          rw [← hW] at H94
          have HW96 := Lib.hid hW
          clear hW
          generalize hb : w88.heap.size = b95 at H94
          have Hb97 := Lib.hid hb
          clear hb
          go_wp2_with fail
          rw [← HW96.out, Hb97.out]
          clear HW96 Hb97
          have H98 := Lib.hid H94.out.drew
          clear H94
          go_wp2_with fail
          refine wp_region_turns (.s 0 (.s 1 (.s 2 (.s 3 (.s 4 (.h 5 (.h 6 (.h 7 (.h 8 .nil))))))))) 8 (fun W' => W'.heap[b95]? = some (.cells #[.int .i64 x92.kind, .string x92.text, .int .i64 x92.line, .int .i64 x92.col] 81 (0, 0)) ∧ W'.heap[b11]? = some (.cells #[.int .i64 x6k, .string x6t, .int .i64 x6l, .int .i64 x6c, .slice a7 x6s.length cap8] 51 (0, 0))) (by kernel_rfl) (by kernel_rfl) (fun c a d v w h => by cases d <;> exact h) (⟨H98.out.at (by simp), H98.out.at (by simp)⟩) ?_
          refine turn_steady (tokV x92) rfl rfl (fun W' hS => ?_) ?_
          · try unfold tokV
            try unfold ptr
            obtain ⟨hS0, hS1⟩ := hS
            obtain ⟨s00, s01, s02, s03, s04⟩ := four_facts hS0
            clear hS0
            obtain ⟨s10, s11, s12, s13, s14, s15, s16, s17, s18, s19, s110⟩ := five_facts hS1
            clear hS1
            go_simp
          refine turn_steady (.pointer (some ⟨b95, 1, none⟩)) rfl rfl (fun W' hS => ?_) ?_
          · try unfold tokV
            try unfold ptr
            obtain ⟨hS0, hS1⟩ := hS
            obtain ⟨s00, s01, s02, s03, s04⟩ := four_facts hS0
            clear hS0
            obtain ⟨s10, s11, s12, s13, s14, s15, s16, s17, s18, s19, s110⟩ := five_facts hS1
            clear hS1
            go_simp
          refine turn_steady (.string x92.text) rfl rfl (fun W' hS => ?_) ?_
          · try unfold tokV
            try unfold ptr
            obtain ⟨hS0, hS1⟩ := hS
            obtain ⟨s00, s01, s02, s03, s04⟩ := four_facts hS0
            clear hS0
            obtain ⟨s10, s11, s12, s13, s14, s15, s16, s17, s18, s19, s110⟩ := five_facts hS1
            clear hS1
            go_simp
          refine turn_steady (.agg #[.int .i64 x6k, .string x6t, .int .i64 x6l, .int .i64 x6c, .slice a7 x6s.length cap8]) rfl rfl (fun W' hS => ?_) ?_
          · try unfold tokV
            try unfold ptr
            obtain ⟨hS0, hS1⟩ := hS
            obtain ⟨s00, s01, s02, s03, s04⟩ := four_facts hS0
            clear hS0
            obtain ⟨s10, s11, s12, s13, s14, s15, s16, s17, s18, s19, s110⟩ := five_facts hS1
            clear hS1
            go_simp
          refine turn_steady (ptr bp) rfl rfl (fun W' hS => ?_) ?_
          · try unfold tokV
            try unfold ptr
            obtain ⟨hS0, hS1⟩ := hS
            obtain ⟨s00, s01, s02, s03, s04⟩ := four_facts hS0
            clear hS0
            obtain ⟨s10, s11, s12, s13, s14, s15, s16, s17, s18, s19, s110⟩ := five_facts hS1
            clear hS1
            go_simp
          refine turn_heavy rfl (fun K99 hK99 => ?_)
          try unfold tokV ptr
          go_wp2_with fail
          have hne : (pSum en L) ts91 (dp) ≠ .out := fun h => Hr.out (Hsp90.out.trans (bind_out h))
          have Hc100 := Lib.hid (Hx.out W93.drew ts91 (dp) H98.out.ps (by omega) (by omega) hne)
          try unfold ptr at Hc100
          clear hne
          refine Hc100.out.mono ?_
          rintro e w101 ⟨hg, hq⟩
          cases hm : (pSum en L) ts91 (dp) with
          | out => exact absurd (Hsp90.out.trans (bind_out hm)) Hr.out
          | err ex el ec =>
            rw [hm] at hq
            obtain rfl := hq
            have Hf : Hid (pExpr en L ts dp = .err ex el ec) := Lib.hid (Hsp90.out.trans (bind_err hm))
            clear hm
            refine ⟨rfl, ?_⟩
            rw [Hf.out]
            exact ⟨grownBy_trans H98.out.grown hg, rfl⟩
          | ok x105 ts104 dq =>
            have hdq : dp = dq := by have := hi _ _ _ _ _ hm; omega
            subst hdq
            rw [hm] at hq
            obtain ⟨x105k, x105t, x105l, x105c, x105s⟩ := x105
            obtain ⟨hps, v, rfl, hv⟩ := hq
            obtain ⟨a106, cap107, rfl, hrow⟩ := NodeV.open hv
            have H102 := Lib.hid ((H98.out.call hg hps).row hrow H98.out.grown.size H98.out.lt)
            clear hv hrow
            have Hsp103 := Lib.hid (Hsp90.out.trans (bind_ok hm))
            clear hm hg hps Hc100 H98 Hsp90
            go_wp2_with fail
            refine hK99 _ _ (fun _ => ⟨H102.out.at (by simp), H102.out.at (by simp)⟩) ?_
            refine turn_heavy rfl (fun K108 hK108 => ?_)
            try unfold tokV ptr
            go_wp2_with fail
            have H109 := Lib.hid (H102.out.lit 51 [[.int .i64 x6k, .string x6t, .int .i64 x6l, .int .i64 x6c, .slice a7 x6s.length cap8], [.int .i64 x105k, .string x105t, .int .i64 x105l, .int .i64 x105c, .slice a106 x105s.length cap107]] [.mk x6k x6t x6l x6c x6s, .mk x105k x105t x105l x105c x105s] rfl (by simp) rfl (fun j n c hj hc => by
              have hjl := (List.getElem?_eq_some_iff.1 hc).1
              simp only [List.length_cons, List.length_nil] at hjl
              obtain rfl | rfl : j = 0 ∨ j = 1 := by omega
              · simp at hj hc
                subst hj hc
                exact ⟨_, _, _, _, _, _, _, rfl, rfl, .inl (by simp)⟩
              · simp at hj hc
                subst hj hc
                exact ⟨_, _, _, _, _, _, _, rfl, rfl, .inl (by simp)⟩))
            clear H102
            refine hK108 _ _ (fun _ => ⟨H109.out.at (by simp), H109.out.at (by simp)⟩) ?_
            refine turn_heavy rfl (fun K110 hK110 => ?_)
            try unfold tokV ptr
            go_wp2_with fail
            have Hnd := Lib.hid (node_any 16 x92 x92.text (some ⟨w101.heap.size, 0, none⟩) 2 2 (w101.alloc (.cells #[.int .i64 x6k, .string x6t, .int .i64 x6l, .int .i64 x6c, .slice a7 x6s.length cap8, .int .i64 x105k, .string x105t, .int .i64 x105l, .int .i64 x105c, .slice a106 x105s.length cap107] 51)))
            unfold tokV nodeC at Hnd
            refine Hnd.out.mono ?_
            rintro e w111 ⟨rfl, hb⟩
            have H112 := Lib.hid (H109.out.below hb)
            clear hb Hnd H109
            go_wp2_with fail
            refine hK110 _ _ (fun _ => ⟨H112.out.at (by simp), H112.out.at (by simp)⟩) ?_
            obtain ⟨r113, r114, r115, r116, r117, r118, r119, r120, r121, r122, r123⟩ := five_facts (H112.out.at (b := w.heap.size) (cs := #[.int .i64 0, .string ⟨#[]⟩, .int .i64 0, .int .i64 0, .slice none 0 0]) (T := 51) (by simp))
            refine turn_heavy rfl (fun K124 hK124 => ?_)
            try unfold tokV ptr
            go_wp2_with fail
            refine hK124 _ _ (fun h => absurd rfl h) ?_
            refine turn_end ?_
            go_wp2_with fail
            refine bodyPost_ret (v := .agg #[.int .i64 16, .string x92.text, .int .i64 x92.line, .int .i64 x92.col, .slice (some ⟨w101.heap.size, 0, none⟩) 2 2]) (by simp [results, Tryz.results73, go_sem, r113, r114, r115, r116, r117, r118]) rfl ?_
            have G := Lib.hid (H112.out.put5 2 rfl (.int .i64 16) (.string x92.text) (.int .i64 x92.line) (.int .i64 x92.col) (.slice (some ⟨w101.heap.size, 0, none⟩) 2 2))
            rw [Hsp103.out]
            exact ⟨G.out.grown, G.out.ps, _, rfl, NodeV.mk _ _ _ _ _ (G.out.hand (by simp))⟩
    · try rw [h1]
      have Hsp125 : Hid (pExpr en L ts dp = PM.bind (pTake en true) (fun t => PM.bind (pSum en L) fun y => PM.pure (nodeT 16 t t.text [.mk x6k x6t x6l x6c x6s, y])) ts5 dp) := Lib.hid (by rw [Hsp14.out, h1] <;> rfl)
      clear Hsp14
      have hne : (pTake en true) ts5 (dp) ≠ .out := fun h => Hr.out (Hsp125.out.trans (bind_out h))
      have Hc126 := Lib.hid (take_any bp true en ts5 (dp) w16 H17.out.ps hne)
      try unfold ptr at Hc126
      clear hne
      go_wp2_with fail
      refine Hc126.out.mono ?_
      rintro e w127 ⟨hg, hq⟩
      cases hm : (pTake en true) ts5 (dp) with
      | out => exact absurd (Hsp125.out.trans (bind_out hm)) Hr.out
      | err ex el ec =>
        rw [hm] at hq
        obtain rfl := hq
        have Hf : Hid (pExpr en L ts dp = .err ex el ec) := Lib.hid (Hsp125.out.trans (bind_err hm))
        clear hm
        refine ⟨rfl, ?_⟩
        rw [Hf.out]
        exact ⟨grownBy_trans H17.out.grown hg, rfl⟩
      | ok x131 ts130 dq =>
        have hdq : dp = dq := by have := Inc.take _ _ _ _ _ _ hm; omega
        subst hdq
        rw [hm] at hq
        obtain ⟨hps, v, rfl, rfl⟩ := hq
        have H128 := Lib.hid (H17.out.call hg hps)
        try unfold tokV
        have Hsp129 := Lib.hid (Hsp125.out.trans (bind_ok hm))
        clear hm hg hps Hc126 H17 Hsp125
        have H133 := Lib.hid (H128.out.alloc #[.int .i64 x131.kind, .string x131.text, .int .i64 x131.line, .int .i64 x131.col] 81)
        clear H128
        obtain ⟨W132, hW⟩ : ∃ X, X = w127.alloc (.cells #[.int .i64 x131.kind, .string x131.text, .int .i64 x131.line, .int .i64 x131.col] 81) := ⟨_, rfl⟩
        rw [← hW] at H133
        have HW135 := Lib.hid hW
        clear hW
        generalize hb : w127.heap.size = b134 at H133
        have Hb136 := Lib.hid hb
        clear hb
        go_wp2_with fail
        rw [← HW135.out, Hb136.out]
        clear HW135 Hb136
        have H137 := Lib.hid H133.out.drew
        clear H133
        go_wp2_with fail
        refine wp_region_turns (.s 0 (.s 1 (.s 2 (.s 3 (.s 4 (.h 5 (.h 6 (.h 7 (.h 8 .nil))))))))) 8 (fun W' => W'.heap[b134]? = some (.cells #[.int .i64 x131.kind, .string x131.text, .int .i64 x131.line, .int .i64 x131.col] 81 (0, 0)) ∧ W'.heap[b11]? = some (.cells #[.int .i64 x6k, .string x6t, .int .i64 x6l, .int .i64 x6c, .slice a7 x6s.length cap8] 51 (0, 0))) (by kernel_rfl) (by kernel_rfl) (fun c a d v w h => by cases d <;> exact h) (⟨H137.out.at (by simp), H137.out.at (by simp)⟩) ?_
        refine turn_steady (tokV x131) rfl rfl (fun W' hS => ?_) ?_
        · try unfold tokV
          try unfold ptr
          obtain ⟨hS0, hS1⟩ := hS
          obtain ⟨s00, s01, s02, s03, s04⟩ := four_facts hS0
          clear hS0
          obtain ⟨s10, s11, s12, s13, s14, s15, s16, s17, s18, s19, s110⟩ := five_facts hS1
          clear hS1
          go_simp
        refine turn_steady (.pointer (some ⟨b134, 1, none⟩)) rfl rfl (fun W' hS => ?_) ?_
        · try unfold tokV
          try unfold ptr
          obtain ⟨hS0, hS1⟩ := hS
          obtain ⟨s00, s01, s02, s03, s04⟩ := four_facts hS0
          clear hS0
          obtain ⟨s10, s11, s12, s13, s14, s15, s16, s17, s18, s19, s110⟩ := five_facts hS1
          clear hS1
          go_simp
        refine turn_steady (.string x131.text) rfl rfl (fun W' hS => ?_) ?_
        · try unfold tokV
          try unfold ptr
          obtain ⟨hS0, hS1⟩ := hS
          obtain ⟨s00, s01, s02, s03, s04⟩ := four_facts hS0
          clear hS0
          obtain ⟨s10, s11, s12, s13, s14, s15, s16, s17, s18, s19, s110⟩ := five_facts hS1
          clear hS1
          go_simp
        refine turn_steady (.agg #[.int .i64 x6k, .string x6t, .int .i64 x6l, .int .i64 x6c, .slice a7 x6s.length cap8]) rfl rfl (fun W' hS => ?_) ?_
        · try unfold tokV
          try unfold ptr
          obtain ⟨hS0, hS1⟩ := hS
          obtain ⟨s00, s01, s02, s03, s04⟩ := four_facts hS0
          clear hS0
          obtain ⟨s10, s11, s12, s13, s14, s15, s16, s17, s18, s19, s110⟩ := five_facts hS1
          clear hS1
          go_simp
        refine turn_steady (ptr bp) rfl rfl (fun W' hS => ?_) ?_
        · try unfold tokV
          try unfold ptr
          obtain ⟨hS0, hS1⟩ := hS
          obtain ⟨s00, s01, s02, s03, s04⟩ := four_facts hS0
          clear hS0
          obtain ⟨s10, s11, s12, s13, s14, s15, s16, s17, s18, s19, s110⟩ := five_facts hS1
          clear hS1
          go_simp
        refine turn_heavy rfl (fun K138 hK138 => ?_)
        try unfold tokV ptr
        go_wp2_with fail
        have hne : (pSum en L) ts130 (dp) ≠ .out := fun h => Hr.out (Hsp129.out.trans (bind_out h))
        have Hc139 := Lib.hid (Hx.out W132.drew ts130 (dp) H137.out.ps (by omega) (by omega) hne)
        try unfold ptr at Hc139
        clear hne
        refine Hc139.out.mono ?_
        rintro e w140 ⟨hg, hq⟩
        cases hm : (pSum en L) ts130 (dp) with
        | out => exact absurd (Hsp129.out.trans (bind_out hm)) Hr.out
        | err ex el ec =>
          rw [hm] at hq
          obtain rfl := hq
          have Hf : Hid (pExpr en L ts dp = .err ex el ec) := Lib.hid (Hsp129.out.trans (bind_err hm))
          clear hm
          refine ⟨rfl, ?_⟩
          rw [Hf.out]
          exact ⟨grownBy_trans H137.out.grown hg, rfl⟩
        | ok x144 ts143 dq =>
          have hdq : dp = dq := by have := hi _ _ _ _ _ hm; omega
          subst hdq
          rw [hm] at hq
          obtain ⟨x144k, x144t, x144l, x144c, x144s⟩ := x144
          obtain ⟨hps, v, rfl, hv⟩ := hq
          obtain ⟨a145, cap146, rfl, hrow⟩ := NodeV.open hv
          have H141 := Lib.hid ((H137.out.call hg hps).row hrow H137.out.grown.size H137.out.lt)
          clear hv hrow
          have Hsp142 := Lib.hid (Hsp129.out.trans (bind_ok hm))
          clear hm hg hps Hc139 H137 Hsp129
          go_wp2_with fail
          refine hK138 _ _ (fun _ => ⟨H141.out.at (by simp), H141.out.at (by simp)⟩) ?_
          refine turn_heavy rfl (fun K147 hK147 => ?_)
          try unfold tokV ptr
          go_wp2_with fail
          have H148 := Lib.hid (H141.out.lit 51 [[.int .i64 x6k, .string x6t, .int .i64 x6l, .int .i64 x6c, .slice a7 x6s.length cap8], [.int .i64 x144k, .string x144t, .int .i64 x144l, .int .i64 x144c, .slice a145 x144s.length cap146]] [.mk x6k x6t x6l x6c x6s, .mk x144k x144t x144l x144c x144s] rfl (by simp) rfl (fun j n c hj hc => by
            have hjl := (List.getElem?_eq_some_iff.1 hc).1
            simp only [List.length_cons, List.length_nil] at hjl
            obtain rfl | rfl : j = 0 ∨ j = 1 := by omega
            · simp at hj hc
              subst hj hc
              exact ⟨_, _, _, _, _, _, _, rfl, rfl, .inl (by simp)⟩
            · simp at hj hc
              subst hj hc
              exact ⟨_, _, _, _, _, _, _, rfl, rfl, .inl (by simp)⟩))
          clear H141
          refine hK147 _ _ (fun _ => ⟨H148.out.at (by simp), H148.out.at (by simp)⟩) ?_
          refine turn_heavy rfl (fun K149 hK149 => ?_)
          try unfold tokV ptr
          go_wp2_with fail
          have Hnd := Lib.hid (node_any 16 x131 x131.text (some ⟨w140.heap.size, 0, none⟩) 2 2 (w140.alloc (.cells #[.int .i64 x6k, .string x6t, .int .i64 x6l, .int .i64 x6c, .slice a7 x6s.length cap8, .int .i64 x144k, .string x144t, .int .i64 x144l, .int .i64 x144c, .slice a145 x144s.length cap146] 51)))
          unfold tokV nodeC at Hnd
          refine Hnd.out.mono ?_
          rintro e w150 ⟨rfl, hb⟩
          have H151 := Lib.hid (H148.out.below hb)
          clear hb Hnd H148
          go_wp2_with fail
          refine hK149 _ _ (fun _ => ⟨H151.out.at (by simp), H151.out.at (by simp)⟩) ?_
          obtain ⟨r152, r153, r154, r155, r156, r157, r158, r159, r160, r161, r162⟩ := five_facts (H151.out.at (b := w.heap.size) (cs := #[.int .i64 0, .string ⟨#[]⟩, .int .i64 0, .int .i64 0, .slice none 0 0]) (T := 51) (by simp))
          refine turn_heavy rfl (fun K163 hK163 => ?_)
          try unfold tokV ptr
          go_wp2_with fail
          refine hK163 _ _ (fun h => absurd rfl h) ?_
          refine turn_end ?_
          go_wp2_with fail
          refine bodyPost_ret (v := .agg #[.int .i64 16, .string x131.text, .int .i64 x131.line, .int .i64 x131.col, .slice (some ⟨w140.heap.size, 0, none⟩) 2 2]) (by simp [results, Tryz.results73, go_sem, r152, r153, r154, r155, r156, r157]) rfl ?_
          have G := Lib.hid (H151.out.put5 2 rfl (.int .i64 16) (.string x131.text) (.int .i64 x131.line) (.int .i64 x131.col) (.slice (some ⟨w140.heap.size, 0, none⟩) 2 2))
          rw [Hsp142.out]
          exact ⟨G.out.grown, G.out.ps, _, rfl, NodeV.mk _ _ _ _ _ (G.out.hand (by simp))⟩

end Go.Proofs.YtmmflgbhgjefmaaGreatDoor
