/-
  Walks of the parser: call. (Printed by parse_gen.py.)
  Walks of the parser: entry. (Printed by parse_gen.py.)
  Walks of the parser: arg. (Printed by parse_gen.py.)
  Walks of the parser: sum. (Printed by parse_gen.py.)
-/
import Derived.Test.YtmmflgbhgjefmaaGreatDoorMParseL
namespace Go.Proofs.YtmmflgbhgjefmaaGreatDoor
open Go Go.RowKit

set_option maxRecDepth 100000 in
set_option maxHeartbeats 8000000 in
theorem call_any (bp : Nat) (en : Int × Int) (L : Lvl) (hL : LInc L) (hx : Does 103 bp en VNode (pArg en L)) : Does 76 bp en VNode (pCall en L) := by
  intro w ts dp hp hd0 hd1 hr
  have Hr := Lib.hid hr
  have Hx := Lib.hid hx
  clear hx
  have hsp : pCall en L ts dp = PM.bind (pTake en (isNameT en ts)) (fun name => pLook fun ts => PM.bind (pOpen en (isSign en ts 0 [40])) fun _ => PM.bind (pList en [41] (pOne (pArg en L))) fun kids => PM.bind (pClose en [41]) fun _ => PM.pure (nodeT 14 name name.text kids)) ts dp := rfl
  have Hsp := Lib.hid hsp
  have H0 := Lib.hid (((PI.start hp).alloc #[.pointer (some ⟨bp, 0, none⟩)] 76).alloc #[.int .i64 0, .string ⟨#[]⟩, .int .i64 0, .int .i64 0, .slice none 0 0] 51)
  have hbx : (w.alloc (.cells #[.pointer (some ⟨bp, 0, none⟩)] 76)).heap.size = w.heap.size + 1 := by simp
  rw [hbx] at H0
  clear hp hr hsp hbx
  unfold ptr
  go_enter Tryz.func76, Tryz.ntmps76
  go_wp2_with fail
  go_cut [3] from 5 (fun v wc => ∃ (t : Tok) (ts1 : List Tok) (b : Nat), v = .pointer (some ⟨b, 0, none⟩) ∧ Hid (pCall en L ts dp = PM.bind (pOpen en (isSign en ts1 0 [40])) (fun _ => PM.bind (pList en [41] (pOne (pArg en L))) fun kids => PM.bind (pClose en [41]) fun _ => PM.pure (nodeT 14 t t.text kids)) ts1 dp) ∧ Hid (PI w bp en ts1 (dp) [(b, #[.int .i64 t.kind, .string t.text, .int .i64 t.line, .int .i64 t.col], 81), (w.heap.size + 1, #[.int .i64 0, .string ⟨#[]⟩, .int .i64 0, .int .i64 0, .slice none 0 0], 51), (w.heap.size, #[.pointer (some ⟨bp, 0, none⟩)], 76)] [] wc))
  case first =>
    have H1 := Lib.hid H0.out.drew
    clear H0
    refine wp_region_turns (.s 0 (.s 1 (.b 2 (.b 3 (.h 4 (.h 5 .nil)) 4 (.h 3 (.h 5 .nil))) 4 (.h 2 (.h 3 (.h 5 .nil)))))) 5 (fun W' => W'.heap[w.heap.size]? = some (.cells #[.pointer (some ⟨bp, 0, none⟩)] 76 (0, 0))) (by kernel_rfl) (by kernel_rfl) (fun c a d v w h => by cases d <;> exact h) (H1.out.at (by simp)) ?_
    generalize hW : ((w.alloc (.cells #[.pointer (some ⟨bp, 0, none⟩)] 76)).alloc (.cells #[.int .i64 0, .string ⟨#[]⟩, .int .i64 0, .int .i64 0, .slice none 0 0] 51)).drew = W2 at H1 ⊢
    clear hW
    refine turn_steady (.pointer (some ⟨bp, 0, none⟩)) rfl rfl (fun W' hS => ?_) ?_
    · try unfold tokV
      try unfold ptr
      have hS0 := hS
      obtain ⟨s00, s01⟩ := one_facts hS0
      clear hS0
      go_simp
    refine turn_steady (.pointer (some ⟨bp, 0, none⟩)) rfl rfl (fun W' hS => ?_) ?_
    · try unfold tokV
      try unfold ptr
      have hS0 := hS
      obtain ⟨s00, s01⟩ := one_facts hS0
      clear hS0
      go_simp
    refine turn_both rfl rfl (fun K3 hK3 => ?_) (fun K4 hK4 => ?_)
    · try unfold tokV ptr
      go_wp2_with fail
      have Hc5 := Lib.hid (name_any bp en ts (dp) W2 H1.out.ps)
      try unfold ptr at Hc5
      refine Hc5.out.mono ?_
      rintro e w6 ⟨rfl, hb⟩
      have H7 := Lib.hid (H1.out.below hb)
      clear hb Hc5 H1
      go_wp2_with fail
      refine hK3 _ _ (fun _ => H7.out.at (by simp)) ?_
      refine turn_both rfl rfl (fun K8 hK8 => ?_) (fun K9 hK9 => ?_)
      · try unfold tokV ptr
        go_wp2_with fail
        have hne : (pTake en (isNameT en ts)) ts (dp) ≠ .out := fun h => Hr.out (Hsp.out.trans (bind_out h))
        have Hc10 := Lib.hid (take_any bp (isNameT en ts) en ts (dp) w6 H7.out.ps hne)
        try unfold ptr at Hc10
        clear hne
        refine Hc10.out.mono ?_
        rintro e w11 ⟨hg, hq⟩
        cases hm : (pTake en (isNameT en ts)) ts (dp) with
        | out => exact absurd (Hsp.out.trans (bind_out hm)) Hr.out
        | err ex el ec =>
          rw [hm] at hq
          obtain rfl := hq
          have Hf : Hid (pCall en L ts dp = .err ex el ec) := Lib.hid (Hsp.out.trans (bind_err hm))
          clear hm
          refine ⟨rfl, ?_⟩
          rw [Hf.out]
          exact ⟨grownBy_trans H7.out.grown hg, rfl⟩
        | ok x15 ts14 dq =>
          have hdq : dp = dq := by have := Inc.take _ _ _ _ _ _ hm; omega
          subst hdq
          rw [hm] at hq
          obtain ⟨hps, v, rfl, rfl⟩ := hq
          have H12 := Lib.hid (H7.out.call hg hps)
          try unfold tokV
          have Hsp13 := Lib.hid (Hsp.out.trans (bind_ok hm))
          clear hm hg hps Hc10 H7 Hsp
          go_wp2_with fail
          refine hK8 _ _ (fun _ => H12.out.at (by simp)) ?_
          refine turn_heavy rfl (fun K16 hK16 => ?_)
          try unfold tokV ptr
          go_wp2_with fail
          have H17 := Lib.hid (H12.out.alloc #[.int .i64 0, .string ⟨#[]⟩, .int .i64 0, .int .i64 0] 81)
          clear H12
          generalize hW : w11.alloc (.cells #[.int .i64 0, .string ⟨#[]⟩, .int .i64 0, .int .i64 0] 81) = W19 at H17 ⊢
          clear hW
          generalize hb : w11.heap.size = b18 at H17 ⊢
          clear hb
          refine hK16 _ _ (fun _ => H17.out.at (by simp)) ?_
          obtain ⟨r20, r21, r22, r23, r24, r25, r26, r27, r28⟩ := four_wfacts (H17.out.at (b := b18) (cs := #[.int .i64 0, .string ⟨#[]⟩, .int .i64 0, .int .i64 0]) (T := 81) (by simp))
          refine turn_heavy rfl (fun K29 hK29 => ?_)
          try unfold tokV ptr
          go_wp2_with fail
          have H30 := Lib.hid (H17.out.put4 0 rfl (.int .i64 x15.kind) (.string x15.text) (.int .i64 x15.line) (.int .i64 x15.col))
          refine hK29 _ _ (fun h => absurd rfl h) ?_
          refine turn_end ?_
          go_wp2_with fail
          go_meet
          case rel => exact ⟨x15, ts14, b18, rfl, Hsp13, H30⟩
      · try unfold tokV ptr
        go_wp2_with fail
        have H31 := Lib.hid (H7.out.alloc #[.int .i64 0, .string ⟨#[]⟩, .int .i64 0, .int .i64 0] 81)
        clear H7
        generalize hW : w6.alloc (.cells #[.int .i64 0, .string ⟨#[]⟩, .int .i64 0, .int .i64 0] 81) = W33 at H31 ⊢
        clear hW
        generalize hb : w6.heap.size = b32 at H31 ⊢
        clear hb
        refine hK9 _ _ (fun _ => H31.out.at (by simp)) ?_
        refine turn_heavy rfl (fun K34 hK34 => ?_)
        try unfold tokV ptr
        go_wp2_with fail
        have hne : (pTake en (isNameT en ts)) ts (dp) ≠ .out := fun h => Hr.out (Hsp.out.trans (bind_out h))
        have Hc35 := Lib.hid (take_any bp (isNameT en ts) en ts (dp) W33 H31.out.ps hne)
        try unfold ptr at Hc35
        clear hne
        refine Hc35.out.mono ?_
        rintro e w36 ⟨hg, hq⟩
        cases hm : (pTake en (isNameT en ts)) ts (dp) with
        | out => exact absurd (Hsp.out.trans (bind_out hm)) Hr.out
        | err ex el ec =>
          rw [hm] at hq
          obtain rfl := hq
          have Hf : Hid (pCall en L ts dp = .err ex el ec) := Lib.hid (Hsp.out.trans (bind_err hm))
          clear hm
          refine ⟨rfl, ?_⟩
          rw [Hf.out]
          exact ⟨grownBy_trans H31.out.grown hg, rfl⟩
        | ok x40 ts39 dq =>
          have hdq : dp = dq := by have := Inc.take _ _ _ _ _ _ hm; omega
          subst hdq
          rw [hm] at hq
          obtain ⟨hps, v, rfl, rfl⟩ := hq
          have H37 := Lib.hid (H31.out.call hg hps)
          try unfold tokV
          have Hsp38 := Lib.hid (Hsp.out.trans (bind_ok hm))
          clear hm hg hps Hc35 H31 Hsp
          go_wp2_with fail
          refine hK34 _ _ (fun _ => H37.out.at (by simp)) ?_
          obtain ⟨r41, r42, r43, r44, r45, r46, r47, r48, r49⟩ := four_wfacts (H37.out.at (b := b32) (cs := #[.int .i64 0, .string ⟨#[]⟩, .int .i64 0, .int .i64 0]) (T := 81) (by simp))
          refine turn_heavy rfl (fun K50 hK50 => ?_)
          try unfold tokV ptr
          go_wp2_with fail
          have H51 := Lib.hid (H37.out.put4 0 rfl (.int .i64 x40.kind) (.string x40.text) (.int .i64 x40.line) (.int .i64 x40.col))
          refine hK50 _ _ (fun h => absurd rfl h) ?_
          refine turn_end ?_
          go_wp2_with fail
          go_meet
          case rel => exact ⟨x40, ts39, b32, rfl, Hsp38, H51⟩
    · try unfold tokV ptr
      go_wp2_with fail
      have H52 := Lib.hid (H1.out.alloc #[.int .i64 0, .string ⟨#[]⟩, .int .i64 0, .int .i64 0] 81)
      clear H1
      generalize hW : W2.alloc (.cells #[.int .i64 0, .string ⟨#[]⟩, .int .i64 0, .int .i64 0] 81) = W54 at H52 ⊢
      clear hW
      generalize hb : W2.heap.size = b53 at H52 ⊢
      clear hb
      refine hK4 _ _ (fun _ => H52.out.at (by simp)) ?_
      refine turn_heavy rfl (fun K55 hK55 => ?_)
      try unfold tokV ptr
      go_wp2_with fail
      have Hc56 := Lib.hid (name_any bp en ts (dp) W54 H52.out.ps)
      try unfold ptr at Hc56
      refine Hc56.out.mono ?_
      rintro e w57 ⟨rfl, hb⟩
      have H58 := Lib.hid (H52.out.below hb)
      clear hb Hc56 H52
      go_wp2_with fail
      refine hK55 _ _ (fun _ => H58.out.at (by simp)) ?_
      refine turn_heavy rfl (fun K59 hK59 => ?_)
      try unfold tokV ptr
      go_wp2_with fail
      have hne : (pTake en (isNameT en ts)) ts (dp) ≠ .out := fun h => Hr.out (Hsp.out.trans (bind_out h))
      have Hc60 := Lib.hid (take_any bp (isNameT en ts) en ts (dp) w57 H58.out.ps hne)
      try unfold ptr at Hc60
      clear hne
      refine Hc60.out.mono ?_
      rintro e w61 ⟨hg, hq⟩
      cases hm : (pTake en (isNameT en ts)) ts (dp) with
      | out => exact absurd (Hsp.out.trans (bind_out hm)) Hr.out
      | err ex el ec =>
        rw [hm] at hq
        obtain rfl := hq
        have Hf : Hid (pCall en L ts dp = .err ex el ec) := Lib.hid (Hsp.out.trans (bind_err hm))
        clear hm
        refine ⟨rfl, ?_⟩
        rw [Hf.out]
        exact ⟨grownBy_trans H58.out.grown hg, rfl⟩
      | ok x65 ts64 dq =>
        have hdq : dp = dq := by have := Inc.take _ _ _ _ _ _ hm; omega
        subst hdq
        rw [hm] at hq
        obtain ⟨hps, v, rfl, rfl⟩ := hq
        have H62 := Lib.hid (H58.out.call hg hps)
        try unfold tokV
        have Hsp63 := Lib.hid (Hsp.out.trans (bind_ok hm))
        clear hm hg hps Hc60 H58 Hsp
        go_wp2_with fail
        refine hK59 _ _ (fun _ => H62.out.at (by simp)) ?_
        obtain ⟨r66, r67, r68, r69, r70, r71, r72, r73, r74⟩ := four_wfacts (H62.out.at (b := b53) (cs := #[.int .i64 0, .string ⟨#[]⟩, .int .i64 0, .int .i64 0]) (T := 81) (by simp))
        refine turn_heavy rfl (fun K75 hK75 => ?_)
        try unfold tokV ptr
        go_wp2_with fail
        have H76 := Lib.hid (H62.out.put4 0 rfl (.int .i64 x65.kind) (.string x65.text) (.int .i64 x65.line) (.int .i64 x65.col))
        refine hK75 _ _ (fun h => absurd rfl h) ?_
        refine turn_end ?_
        go_wp2_with fail
        go_meet
        case rel => exact ⟨x65, ts64, b53, rfl, Hsp63, H76⟩
  case rest =>
    obtain ⟨t77, ts78, b79, hv82, Hsp80, H81⟩ := hcut
    subst hv82
    clear Hsp H0
    rename World => w83
    go_wp2_with fail
    have H84 := Lib.hid H81.out.drew
    clear H81
    go_wp2_with fail
    refine wp_region_turns (.s 0 (.s 1 (.h 2 (.h 3 .nil)))) 3 (fun W' => W'.heap[w.heap.size]? = some (.cells #[.pointer (some ⟨bp, 0, none⟩)] 76 (0, 0))) (by kernel_rfl) (by kernel_rfl) (fun c a d v w h => by cases d <;> exact h) (H84.out.at (by simp)) ?_
    refine turn_steady (.pointer (some ⟨bp, 0, none⟩)) rfl rfl (fun W' hS => ?_) ?_
    · try unfold tokV
      try unfold ptr
      have hS0 := hS
      obtain ⟨s00, s01⟩ := one_facts hS0
      clear hS0
      go_simp
    refine turn_steady (.pointer (some ⟨bp, 0, none⟩)) rfl rfl (fun W' hS => ?_) ?_
    · try unfold tokV
      try unfold ptr
      have hS0 := hS
      obtain ⟨s00, s01⟩ := one_facts hS0
      clear hS0
      go_simp
    refine turn_heavy rfl (fun K85 hK85 => ?_)
    try unfold tokV ptr
    go_wp2_with fail
    have Hc86 := Lib.hid (sign_any bp 0 ⟨#[40]⟩ en ts78 (dp) w83.drew (by omega) H84.out.ps)
    try unfold ptr at Hc86
    refine Hc86.out.mono ?_
    rintro e w87 ⟨rfl, hb⟩
    have H88 := Lib.hid (H84.out.below hb)
    clear hb Hc86 H84
    go_wp2_with fail
    refine hK85 _ _ (fun _ => H88.out.at (by simp)) ?_
    refine turn_heavy rfl (fun K89 hK89 => ?_)
    try unfold tokV ptr
    go_wp2_with fail
    have hne : (pOpen en (isSign en ts78 0 [40])) ts78 (dp) ≠ .out := fun h => Hr.out (Hsp80.out.trans (bind_out h))
    have Hc90 := Lib.hid (open_any bp (isSign en ts78 0 [40]) en ts78 (dp) w87 (by omega) (by omega) H88.out.ps hne)
    try unfold ptr at Hc90
    clear hne
    refine Hc90.out.mono ?_
    rintro e w91 ⟨hg, hq⟩
    cases hm : (pOpen en (isSign en ts78 0 [40])) ts78 (dp) with
    | out => exact absurd (Hsp80.out.trans (bind_out hm)) Hr.out
    | err ex el ec =>
      rw [hm] at hq
      obtain rfl := hq
      have Hf : Hid (pCall en L ts dp = .err ex el ec) := Lib.hid (Hsp80.out.trans (bind_err hm))
      clear hm
      refine ⟨rfl, ?_⟩
      rw [Hf.out]
      exact ⟨grownBy_trans H88.out.grown hg, rfl⟩
    | ok x95 ts94 dq =>
      have hlt := open_lt hm
      have hdq : dp + 1 = dq := by have := Inc.open _ _ _ _ _ _ hm; omega
      subst hdq
      rw [hm] at hq
      obtain ⟨hps, v, rfl, rfl⟩ := hq
      have H92 := Lib.hid (H88.out.call hg hps)
      try unfold tokV
      have Hsp93 := Lib.hid (Hsp80.out.trans (bind_ok hm))
      clear hm hg hps Hc90 H88 Hsp80
      go_wp2_with fail
      refine hK89 _ _ (fun h => absurd rfl h) ?_
      refine turn_end ?_
      have hne : (pList en [41] (pOne (pArg en L))) ts94 (dp + 1) ≠ .out := fun h => Hr.out (Hsp93.out.trans (bind_out h))
      have Hc96 := Lib.hid (list_any bp ⟨#[41]⟩ 102 #[] #[.pointer (some ⟨w.heap.size, 0, none⟩)] (pOne (pArg en L)) en ts94 (dp + 1) w91 (by omega) (by omega) H92.out.ps (by intro args w; rfl) (fun w1 ts1 hg hp' hr' => call1_any bp w.heap.size en L (Inc.arg hL) Hx.out w1 (H92.out.later hg (by simp [ptr])) ts1 (dp + 1) hp' (by omega) (by omega) hr') (Inc.one (Inc.arg hL)) pure_one hne)
      try unfold ptr at Hc96
      clear hne
      obtain ⟨r102, r103⟩ := one_facts (H92.out.at (b := w.heap.size) (cs := #[.pointer (some ⟨bp, 0, none⟩)]) (T := 76) (by simp))
      go_wp2_with fail
      clear r102 r103
      refine Hc96.out.mono ?_
      rintro e w97 ⟨hg, hq⟩
      cases hm : (pList en [41] (pOne (pArg en L))) ts94 (dp + 1) with
      | out => exact absurd (Hsp93.out.trans (bind_out hm)) Hr.out
      | err ex el ec =>
        rw [hm] at hq
        obtain rfl := hq
        have Hf : Hid (pCall en L ts dp = .err ex el ec) := Lib.hid (Hsp93.out.trans (bind_err hm))
        clear hm
        refine ⟨rfl, ?_⟩
        rw [Hf.out]
        exact ⟨grownBy_trans H92.out.grown hg, rfl⟩
      | ok x101 ts100 dq =>
        have hdq : dp + 1 = dq := by have := Inc.list (Inc.one (Inc.arg hL)) _ _ _ _ _ hm; omega
        subst hdq
        rw [hm] at hq
        obtain ⟨hps, v, rfl, a104, cap105, rfl, hrow⟩ := hq
        have H98 := Lib.hid ((H92.out.call hg hps).row hrow H92.out.grown.size H92.out.lt)
        clear hrow
        have Hsp99 := Lib.hid (Hsp93.out.trans (bind_ok hm))
        clear hm hg hps Hc96 H92 Hsp93
        have hne : (pClose en [41]) ts100 (dp + 1) ≠ .out := fun h => Hr.out (Hsp99.out.trans (bind_out h))
        have Hc106 := Lib.hid (close_any bp ⟨#[41]⟩ en ts100 (dp + 1) w97 (by omega) (by omega) H98.out.ps hne)
        try unfold ptr at Hc106
        clear hne
        obtain ⟨r112, r113⟩ := one_facts (H98.out.at (b := w.heap.size) (cs := #[.pointer (some ⟨bp, 0, none⟩)]) (T := 76) (by simp))
        go_wp2_with fail
        clear r112 r113
        refine Hc106.out.mono ?_
        rintro e w107 ⟨hg, hq⟩
        cases hm : (pClose en [41]) ts100 (dp + 1) with
        | out => exact absurd (Hsp99.out.trans (bind_out hm)) Hr.out
        | err ex el ec =>
          rw [hm] at hq
          obtain rfl := hq
          have Hf : Hid (pCall en L ts dp = .err ex el ec) := Lib.hid (Hsp99.out.trans (bind_err hm))
          clear hm
          refine ⟨rfl, ?_⟩
          rw [Hf.out]
          exact ⟨grownBy_trans H98.out.grown hg, rfl⟩
        | ok x111 ts110 dq =>
          have hdq : dp = dq := by have := Inc.close _ _ _ _ _ _ hm; omega
          subst hdq
          rw [hm] at hq
          obtain ⟨hps, v, rfl, -⟩ := hq
          have H108 := Lib.hid (H98.out.call hg hps)
          have Hsp109 := Lib.hid (Hsp99.out.trans (bind_ok hm))
          clear hm hg hps Hc106 H98 Hsp99
          obtain ⟨r114, r115⟩ := one_facts (H108.out.at (b := w.heap.size) (cs := #[.pointer (some ⟨bp, 0, none⟩)]) (T := 76) (by simp))
          obtain ⟨r116, r117, r118, r119, r120⟩ := four_facts (H108.out.at (b := b79) (cs := #[.int .i64 t77.kind, .string t77.text, .int .i64 t77.line, .int .i64 t77.col]) (T := 81) (by simp))
          go_wp2_with fail
          clear r114 r115 r116 r117 r118 r119 r120
          have Hnd := Lib.hid (node_any 14 t77 t77.text a104 x101.length cap105 w107)
          unfold tokV nodeC at Hnd
          refine Hnd.out.mono ?_
          rintro e w121 ⟨rfl, hb⟩
          have H122 := Lib.hid (H108.out.below hb)
          clear hb Hnd H108
          obtain ⟨r123, r124, r125, r126, r127, r128, r129, r130, r131, r132, r133⟩ := five_facts (H122.out.at (b := w.heap.size + 1) (cs := #[.int .i64 0, .string ⟨#[]⟩, .int .i64 0, .int .i64 0, .slice none 0 0]) (T := 51) (by simp))
          go_wp2_with fail
          refine bodyPost_ret (v := .agg #[.int .i64 14, .string t77.text, .int .i64 t77.line, .int .i64 t77.col, .slice a104 x101.length cap105]) (by simp [results, Tryz.results76, go_sem, r123, r124, r125, r126, r127, r128]) rfl ?_
          have G := Lib.hid (H122.out.put5 1 rfl (.int .i64 14) (.string t77.text) (.int .i64 t77.line) (.int .i64 t77.col) (.slice a104 x101.length cap105))
          rw [Hsp109.out]
          exact ⟨G.out.grown, G.out.ps, _, rfl, NodeV.mk _ _ _ _ _ (G.out.hand (by simp))⟩

end Go.Proofs.YtmmflgbhgjefmaaGreatDoor
namespace Go.Proofs.YtmmflgbhgjefmaaGreatDoor
open Go Go.RowKit

set_option maxRecDepth 100000 in
set_option maxHeartbeats 8000000 in
theorem entry_any (bp : Nat) (en : Int × Int) (L : Lvl) (hL : LInc L) (hx : Does 73 bp en VNode L.expr) : Does 153 bp en VRow (pEntry en L) := by
  intro w ts dp hp hd0 hd1 hr
  have Hr := Lib.hid hr
  have Hx := Lib.hid hx
  clear hx
  have hsp : pEntry en L ts dp = PM.bind (pTake en ((tokAt en ts 0).kind == 3)) (fun t => PM.bind (pEat en [58]) fun _ => PM.bind L.expr fun x => PM.pure [nodeT 11 t t.text [], x]) ts dp := rfl
  have Hsp := Lib.hid hsp
  have H0 := Lib.hid (PI.start hp)
  clear hp hr hsp
  unfold ptr
  go_enter Tryz.func153, Tryz.ntmps153
  go_wp2_with fail
  have Hc1 := Lib.hid (at_any bp 0 en ts (dp) w (by omega) H0.out.ps)
  try unfold ptr at Hc1
  refine Hc1.out.mono ?_
  rintro e w2 ⟨rfl, hb⟩
  have H3 := Lib.hid (H0.out.below hb)
  clear hb Hc1 H0
  try unfold tokV
  generalize tokAt en ts 0 = t at Hsp ⊢
  have k0 := tok_kind
  have hne : (pTake en (t.kind == 3)) ts (dp) ≠ .out := fun h => Hr.out (Hsp.out.trans (bind_out h))
  have Hc4 := Lib.hid (take_any bp (t.kind == 3) en ts (dp) w2 H3.out.ps hne)
  try unfold ptr at Hc4
  clear hne
  go_wp2_with fail
  refine Hc4.out.mono ?_
  rintro e w5 ⟨hg, hq⟩
  cases hm : (pTake en (t.kind == 3)) ts (dp) with
  | out => exact absurd (Hsp.out.trans (bind_out hm)) Hr.out
  | err ex el ec =>
    rw [hm] at hq
    obtain rfl := hq
    have Hf : Hid (pEntry en L ts dp = .err ex el ec) := Lib.hid (Hsp.out.trans (bind_err hm))
    clear hm
    refine ⟨rfl, ?_⟩
    rw [Hf.out]
    exact ⟨grownBy_trans H3.out.grown hg, rfl⟩
  | ok x9 ts8 dq =>
    have hdq : dp = dq := by have := Inc.take _ _ _ _ _ _ hm; omega
    subst hdq
    rw [hm] at hq
    obtain ⟨hps, v, rfl, rfl⟩ := hq
    have H6 := Lib.hid (H3.out.call hg hps)
    try unfold tokV
    have Hsp7 := Lib.hid (Hsp.out.trans (bind_ok hm))
    clear hm hg hps Hc4 H3 Hsp
    clear k0
    have H11 := Lib.hid (H6.out.alloc #[.int .i64 x9.kind, .string x9.text, .int .i64 x9.line, .int .i64 x9.col] 81)
    clear H6
    obtain ⟨W10, hW⟩ : ∃ X, X = w5.alloc (.cells #[.int .i64 x9.kind, .string x9.text, .int .i64 x9.line, .int .i64 x9.col] 81) := ⟨_, rfl⟩
    rw [← hW] at H11
    have HW13 := Lib.hid hW
    clear hW
    generalize hb : w5.heap.size = b12 at H11
    have Hb14 := Lib.hid hb
    clear hb
    go_wp2_with fail
    rw [← HW13.out, Hb14.out]
    clear HW13 Hb14
    have hne : (pEat en [58]) ts8 (dp) ≠ .out := fun h => Hr.out (Hsp7.out.trans (bind_out h))
    have Hc15 := Lib.hid (eat_any bp ⟨#[58]⟩ en ts8 (dp) W10 H11.out.ps hne)
    try unfold ptr at Hc15
    clear hne
    refine Hc15.out.mono ?_
    rintro e w16 ⟨hg, hq⟩
    cases hm : (pEat en [58]) ts8 (dp) with
    | out => exact absurd (Hsp7.out.trans (bind_out hm)) Hr.out
    | err ex el ec =>
      rw [hm] at hq
      obtain rfl := hq
      have Hf : Hid (pEntry en L ts dp = .err ex el ec) := Lib.hid (Hsp7.out.trans (bind_err hm))
      clear hm
      refine ⟨rfl, ?_⟩
      rw [Hf.out]
      exact ⟨grownBy_trans H11.out.grown hg, rfl⟩
    | ok x20 ts19 dq =>
      have hdq : dp = dq := by have := Inc.eat _ _ _ _ _ _ hm; omega
      subst hdq
      rw [hm] at hq
      obtain ⟨hps, v, rfl, -⟩ := hq
      have H17 := Lib.hid (H11.out.call hg hps)
      have Hsp18 := Lib.hid (Hsp7.out.trans (bind_ok hm))
      clear hm hg hps Hc15 H11 Hsp7
      obtain ⟨r21, r22, r23, r24, r25⟩ := four_facts (H17.out.at (b := b12) (cs := #[.int .i64 x9.kind, .string x9.text, .int .i64 x9.line, .int .i64 x9.col]) (T := 81) (by simp))
      go_wp2_with fail
      clear r21 r22 r23 r24 r25
      have Hnd := Lib.hid (node_any 11 x9 x9.text none 0 0 w16)
      unfold tokV nodeC at Hnd
      refine Hnd.out.mono ?_
      rintro e w26 ⟨rfl, hb⟩
      have H27 := Lib.hid (H17.out.below hb)
      clear hb Hnd H17
      have hne : (L.expr) ts19 (dp) ≠ .out := fun h => Hr.out (Hsp18.out.trans (bind_out h))
      have Hc28 := Lib.hid (Hx.out w26 ts19 (dp) H27.out.ps (by omega) (by omega) hne)
      try unfold ptr at Hc28
      clear hne
      go_wp2_with fail
      refine Hc28.out.mono ?_
      rintro e w29 ⟨hg, hq⟩
      cases hm : (L.expr) ts19 (dp) with
      | out => exact absurd (Hsp18.out.trans (bind_out hm)) Hr.out
      | err ex el ec =>
        rw [hm] at hq
        obtain rfl := hq
        have Hf : Hid (pEntry en L ts dp = .err ex el ec) := Lib.hid (Hsp18.out.trans (bind_err hm))
        clear hm
        refine ⟨rfl, ?_⟩
        rw [Hf.out]
        exact ⟨grownBy_trans H27.out.grown hg, rfl⟩
      | ok x33 ts32 dq =>
        have hdq : dp = dq := by have := hL.expr _ _ _ _ _ hm; omega
        subst hdq
        rw [hm] at hq
        obtain ⟨x33k, x33t, x33l, x33c, x33s⟩ := x33
        obtain ⟨hps, v, rfl, hv⟩ := hq
        obtain ⟨a34, cap35, rfl, hrow⟩ := NodeV.open hv
        have H30 := Lib.hid ((H27.out.call hg hps).row hrow H27.out.grown.size H27.out.lt)
        clear hv hrow
        have Hsp31 := Lib.hid (Hsp18.out.trans (bind_ok hm))
        clear hm hg hps Hc28 H27 Hsp18
        go_wp2_with fail
        have H36 := Lib.hid (H30.out.lit 51 [[.int .i64 11, .string x9.text, .int .i64 x9.line, .int .i64 x9.col, .slice none 0 0], [.int .i64 x33k, .string x33t, .int .i64 x33l, .int .i64 x33c, .slice a34 x33s.length cap35]] [.mk 11 x9.text x9.line x9.col [], .mk x33k x33t x33l x33c x33s] rfl (by simp) rfl (fun j n c hj hc => by
          have hjl := (List.getElem?_eq_some_iff.1 hc).1
          simp only [List.length_cons, List.length_nil] at hjl
          obtain rfl | rfl : j = 0 ∨ j = 1 := by omega
          · simp at hj hc
            subst hj hc
            exact ⟨_, _, _, _, _, _, _, rfl, rfl, .inr rfl⟩
          · simp at hj hc
            subst hj hc
            exact ⟨_, _, _, _, _, _, _, rfl, rfl, .inl (by simp)⟩))
        clear H30
        go_ret
        rw [Hsp31.out]
        exact ⟨H36.out.grown, H36.out.ps, _, rfl, _, _, rfl, H36.out.hand (by simp [nodeT])⟩

end Go.Proofs.YtmmflgbhgjefmaaGreatDoor
namespace Go.Proofs.YtmmflgbhgjefmaaGreatDoor
open Go Go.RowKit

set_option maxRecDepth 100000 in
set_option maxHeartbeats 8000000 in
theorem arg_any (bp : Nat) (en : Int × Int) (L : Lvl) (hL : LInc L) (hx : Does 73 bp en VNode L.expr) : Does 103 bp en VNode (pArg en L) := by
  intro w ts dp hp hd0 hd1 hr
  have Hr := Lib.hid hr
  have Hx := Lib.hid hx
  clear hx
  have hsp : pArg en L ts dp = (if isNameT en ts && isSign en ts 1 [61] then PM.bind (pTake en true) (fun _ => PM.bind (pEat en [61]) fun _ => PM.bind L.expr fun x => PM.pure (nodeT 15 (tokAt en ts 0) (tokAt en ts 0).text [x])) else PM.bind L.expr (fun x => PM.pure (nodeT 15 (tokAt en ts 0) ⟨#[]⟩ [x]))) ts dp := rfl
  have Hsp := Lib.hid hsp
  have H0 := Lib.hid ((PI.start hp).alloc #[.int .i64 0, .string ⟨#[]⟩, .int .i64 0, .int .i64 0, .slice none 0 0] 51)
  clear hp hr hsp
  unfold ptr
  go_enter Tryz.func103, Tryz.ntmps103
  go_wp2_with fail
  have Hc1 := Lib.hid (at_any bp 0 en ts (dp) (w.alloc (.cells #[.int .i64 0, .string ⟨#[]⟩, .int .i64 0, .int .i64 0, .slice none 0 0] 51)) (by omega) H0.out.ps)
  try unfold ptr at Hc1
  refine Hc1.out.mono ?_
  rintro e w2 ⟨rfl, hb⟩
  have H3 := Lib.hid (H0.out.below hb)
  clear hb Hc1 H0
  try unfold tokV
  generalize tokAt en ts 0 = t at Hsp ⊢
  have H5 := Lib.hid (H3.out.alloc #[.int .i64 t.kind, .string t.text, .int .i64 t.line, .int .i64 t.col] 81)
  clear H3
  obtain ⟨W4, hW⟩ : ∃ X, X = w2.alloc (.cells #[.int .i64 t.kind, .string t.text, .int .i64 t.line, .int .i64 t.col] 81) := ⟨_, rfl⟩
  rw [← hW] at H5
  have HW7 := Lib.hid hW
  clear hW
  generalize hb : w2.heap.size = b6 at H5
  have Hb8 := Lib.hid hb
  clear hb
  go_wp2_with fail
  rw [← HW7.out, Hb8.out]
  clear HW7 Hb8
  have Hc9 := Lib.hid (name_any bp en ts (dp) W4 H5.out.ps)
  try unfold ptr at Hc9
  refine Hc9.out.mono ?_
  rintro e w10 ⟨rfl, hb⟩
  have H11 := Lib.hid (H5.out.below hb)
  clear hb Hc9 H5
  cases hn : isNameT en ts
  · have Hsp12 : Hid (pArg en L ts dp = PM.bind L.expr (fun x => PM.pure (nodeT 15 t ⟨#[]⟩ [x])) ts dp) := Lib.hid (by rw [Hsp.out, hn] <;> rfl)
    clear Hsp
    try rw [hn]
    clear hn
    have H13 := Lib.hid H11.out.drew
    clear H11
    go_wp2_with fail
    refine wp_region_turns (.s 0 (.s 1 (.h 2 (.h 3 (.h 4 (.h 5 .nil)))))) 5 (fun W' => W'.heap[b6]? = some (.cells #[.int .i64 t.kind, .string t.text, .int .i64 t.line, .int .i64 t.col] 81 (0, 0))) (by kernel_rfl) (by kernel_rfl) (fun c a d v w h => by cases d <;> exact h) (H13.out.at (by simp)) ?_
    refine turn_steady (tokV t) rfl rfl (fun W' hS => ?_) ?_
    · try unfold tokV
      try unfold ptr
      have hS0 := hS
      obtain ⟨s00, s01, s02, s03, s04⟩ := four_facts hS0
      clear hS0
      go_simp
    refine turn_steady (ptr bp) rfl rfl (fun W' hS => ?_) ?_
    · try unfold tokV
      try unfold ptr
      have hS0 := hS
      obtain ⟨s00, s01, s02, s03, s04⟩ := four_facts hS0
      clear hS0
      go_simp
    refine turn_heavy rfl (fun K14 hK14 => ?_)
    try unfold tokV ptr
    go_wp2_with fail
    have hne : (L.expr) ts (dp) ≠ .out := fun h => Hr.out (Hsp12.out.trans (bind_out h))
    have Hc15 := Lib.hid (Hx.out w10.drew ts (dp) H13.out.ps (by omega) (by omega) hne)
    try unfold ptr at Hc15
    clear hne
    refine Hc15.out.mono ?_
    rintro e w16 ⟨hg, hq⟩
    cases hm : (L.expr) ts (dp) with
    | out => exact absurd (Hsp12.out.trans (bind_out hm)) Hr.out
    | err ex el ec =>
      rw [hm] at hq
      obtain rfl := hq
      have Hf : Hid (pArg en L ts dp = .err ex el ec) := Lib.hid (Hsp12.out.trans (bind_err hm))
      clear hm
      refine ⟨rfl, ?_⟩
      rw [Hf.out]
      exact ⟨grownBy_trans H13.out.grown hg, rfl⟩
    | ok x20 ts19 dq =>
      have hdq : dp = dq := by have := hL.expr _ _ _ _ _ hm; omega
      subst hdq
      rw [hm] at hq
      obtain ⟨x20k, x20t, x20l, x20c, x20s⟩ := x20
      obtain ⟨hps, v, rfl, hv⟩ := hq
      obtain ⟨a21, cap22, rfl, hrow⟩ := NodeV.open hv
      have H17 := Lib.hid ((H13.out.call hg hps).row hrow H13.out.grown.size H13.out.lt)
      clear hv hrow
      have Hsp18 := Lib.hid (Hsp12.out.trans (bind_ok hm))
      clear hm hg hps Hc15 H13 Hsp12
      go_wp2_with fail
      refine hK14 _ _ (fun _ => H17.out.at (by simp)) ?_
      refine turn_heavy rfl (fun K23 hK23 => ?_)
      try unfold tokV ptr
      go_wp2_with fail
      have H24 := Lib.hid (H17.out.lit 51 [[.int .i64 x20k, .string x20t, .int .i64 x20l, .int .i64 x20c, .slice a21 x20s.length cap22]] [.mk x20k x20t x20l x20c x20s] rfl (by simp) rfl (fun j n c hj hc => by
        have hjl := (List.getElem?_eq_some_iff.1 hc).1
        simp only [List.length_cons, List.length_nil] at hjl
        obtain rfl : j = 0 := by omega
        · simp at hj hc
          subst hj hc
          exact ⟨_, _, _, _, _, _, _, rfl, rfl, .inl (by simp)⟩))
      clear H17
      refine hK23 _ _ (fun _ => H24.out.at (by simp)) ?_
      refine turn_heavy rfl (fun K25 hK25 => ?_)
      try unfold tokV ptr
      go_wp2_with fail
      have Hnd := Lib.hid (node_any 15 t ⟨#[]⟩ (some ⟨w16.heap.size, 0, none⟩) 1 1 (w16.alloc (.cells #[.int .i64 x20k, .string x20t, .int .i64 x20l, .int .i64 x20c, .slice a21 x20s.length cap22] 51)))
      unfold tokV nodeC at Hnd
      refine Hnd.out.mono ?_
      rintro e w26 ⟨rfl, hb⟩
      have H27 := Lib.hid (H24.out.below hb)
      clear hb Hnd H24
      go_wp2_with fail
      refine hK25 _ _ (fun _ => H27.out.at (by simp)) ?_
      obtain ⟨r28, r29, r30, r31, r32, r33, r34, r35, r36, r37, r38⟩ := five_facts (H27.out.at (b := w.heap.size) (cs := #[.int .i64 0, .string ⟨#[]⟩, .int .i64 0, .int .i64 0, .slice none 0 0]) (T := 51) (by simp))
      refine turn_heavy rfl (fun K39 hK39 => ?_)
      try unfold tokV ptr
      go_wp2_with fail
      refine hK39 _ _ (fun h => absurd rfl h) ?_
      refine turn_end ?_
      go_wp2_with fail
      refine bodyPost_ret (v := .agg #[.int .i64 15, .string ⟨#[]⟩, .int .i64 t.line, .int .i64 t.col, .slice (some ⟨w16.heap.size, 0, none⟩) 1 1]) (by simp [results, Tryz.results103, go_sem, r28, r29, r30, r31, r32, r33]) rfl ?_
      have G := Lib.hid (H27.out.put5 1 rfl (.int .i64 15) (.string ⟨#[]⟩) (.int .i64 t.line) (.int .i64 t.col) (.slice (some ⟨w16.heap.size, 0, none⟩) 1 1))
      rw [Hsp18.out]
      exact ⟨G.out.grown, G.out.ps, _, rfl, NodeV.mk _ _ _ _ _ (G.out.hand (by simp))⟩
  · have Hn := Lib.hid hn
    try rw [hn]
    clear hn
    have Hc40 := Lib.hid (sign_any bp 1 ⟨#[61]⟩ en ts (dp) w10 (by omega) H11.out.ps)
    try unfold ptr at Hc40
    go_wp2_with fail
    refine Hc40.out.mono ?_
    rintro e w41 ⟨rfl, hb⟩
    have H42 := Lib.hid (H11.out.below hb)
    clear hb Hc40 H11
    cases hs : isSign en ts 1 [61]
    · have Hsp43 : Hid (pArg en L ts dp = PM.bind L.expr (fun x => PM.pure (nodeT 15 t ⟨#[]⟩ [x])) ts dp) := Lib.hid (by rw [Hsp.out, Hn.out, hs] <;> rfl)
      clear Hsp
      try rw [hs]
      clear hs Hn
      have H44 := Lib.hid H42.out.drew
      clear H42
      go_wp2_with fail
      refine wp_region_turns (.s 0 (.s 1 (.h 2 (.h 3 (.h 4 (.h 5 .nil)))))) 5 (fun W' => W'.heap[b6]? = some (.cells #[.int .i64 t.kind, .string t.text, .int .i64 t.line, .int .i64 t.col] 81 (0, 0))) (by kernel_rfl) (by kernel_rfl) (fun c a d v w h => by cases d <;> exact h) (H44.out.at (by simp)) ?_
      refine turn_steady (tokV t) rfl rfl (fun W' hS => ?_) ?_
      · try unfold tokV
        try unfold ptr
        have hS0 := hS
        obtain ⟨s00, s01, s02, s03, s04⟩ := four_facts hS0
        clear hS0
        go_simp
      refine turn_steady (ptr bp) rfl rfl (fun W' hS => ?_) ?_
      · try unfold tokV
        try unfold ptr
        have hS0 := hS
        obtain ⟨s00, s01, s02, s03, s04⟩ := four_facts hS0
        clear hS0
        go_simp
      refine turn_heavy rfl (fun K45 hK45 => ?_)
      try unfold tokV ptr
      go_wp2_with fail
      have hne : (L.expr) ts (dp) ≠ .out := fun h => Hr.out (Hsp43.out.trans (bind_out h))
      have Hc46 := Lib.hid (Hx.out w41.drew ts (dp) H44.out.ps (by omega) (by omega) hne)
      try unfold ptr at Hc46
      clear hne
      refine Hc46.out.mono ?_
      rintro e w47 ⟨hg, hq⟩
      cases hm : (L.expr) ts (dp) with
      | out => exact absurd (Hsp43.out.trans (bind_out hm)) Hr.out
      | err ex el ec =>
        rw [hm] at hq
        obtain rfl := hq
        have Hf : Hid (pArg en L ts dp = .err ex el ec) := Lib.hid (Hsp43.out.trans (bind_err hm))
        clear hm
        refine ⟨rfl, ?_⟩
        rw [Hf.out]
        exact ⟨grownBy_trans H44.out.grown hg, rfl⟩
      | ok x51 ts50 dq =>
        have hdq : dp = dq := by have := hL.expr _ _ _ _ _ hm; omega
        subst hdq
        rw [hm] at hq
        obtain ⟨x51k, x51t, x51l, x51c, x51s⟩ := x51
        obtain ⟨hps, v, rfl, hv⟩ := hq
        obtain ⟨a52, cap53, rfl, hrow⟩ := NodeV.open hv
        have H48 := Lib.hid ((H44.out.call hg hps).row hrow H44.out.grown.size H44.out.lt)
        clear hv hrow
        have Hsp49 := Lib.hid (Hsp43.out.trans (bind_ok hm))
        clear hm hg hps Hc46 H44 Hsp43
        go_wp2_with fail
        refine hK45 _ _ (fun _ => H48.out.at (by simp)) ?_
        refine turn_heavy rfl (fun K54 hK54 => ?_)
        try unfold tokV ptr
        go_wp2_with fail
        have H55 := Lib.hid (H48.out.lit 51 [[.int .i64 x51k, .string x51t, .int .i64 x51l, .int .i64 x51c, .slice a52 x51s.length cap53]] [.mk x51k x51t x51l x51c x51s] rfl (by simp) rfl (fun j n c hj hc => by
          have hjl := (List.getElem?_eq_some_iff.1 hc).1
          simp only [List.length_cons, List.length_nil] at hjl
          obtain rfl : j = 0 := by omega
          · simp at hj hc
            subst hj hc
            exact ⟨_, _, _, _, _, _, _, rfl, rfl, .inl (by simp)⟩))
        clear H48
        refine hK54 _ _ (fun _ => H55.out.at (by simp)) ?_
        refine turn_heavy rfl (fun K56 hK56 => ?_)
        try unfold tokV ptr
        go_wp2_with fail
        have Hnd := Lib.hid (node_any 15 t ⟨#[]⟩ (some ⟨w47.heap.size, 0, none⟩) 1 1 (w47.alloc (.cells #[.int .i64 x51k, .string x51t, .int .i64 x51l, .int .i64 x51c, .slice a52 x51s.length cap53] 51)))
        unfold tokV nodeC at Hnd
        refine Hnd.out.mono ?_
        rintro e w57 ⟨rfl, hb⟩
        have H58 := Lib.hid (H55.out.below hb)
        clear hb Hnd H55
        go_wp2_with fail
        refine hK56 _ _ (fun _ => H58.out.at (by simp)) ?_
        obtain ⟨r59, r60, r61, r62, r63, r64, r65, r66, r67, r68, r69⟩ := five_facts (H58.out.at (b := w.heap.size) (cs := #[.int .i64 0, .string ⟨#[]⟩, .int .i64 0, .int .i64 0, .slice none 0 0]) (T := 51) (by simp))
        refine turn_heavy rfl (fun K70 hK70 => ?_)
        try unfold tokV ptr
        go_wp2_with fail
        refine hK70 _ _ (fun h => absurd rfl h) ?_
        refine turn_end ?_
        go_wp2_with fail
        refine bodyPost_ret (v := .agg #[.int .i64 15, .string ⟨#[]⟩, .int .i64 t.line, .int .i64 t.col, .slice (some ⟨w47.heap.size, 0, none⟩) 1 1]) (by simp [results, Tryz.results103, go_sem, r59, r60, r61, r62, r63, r64]) rfl ?_
        have G := Lib.hid (H58.out.put5 1 rfl (.int .i64 15) (.string ⟨#[]⟩) (.int .i64 t.line) (.int .i64 t.col) (.slice (some ⟨w47.heap.size, 0, none⟩) 1 1))
        rw [Hsp49.out]
        exact ⟨G.out.grown, G.out.ps, _, rfl, NodeV.mk _ _ _ _ _ (G.out.hand (by simp))⟩
    · have Hsp71 : Hid (pArg en L ts dp = PM.bind (pTake en true) (fun _ => PM.bind (pEat en [61]) fun _ => PM.bind L.expr fun x => PM.pure (nodeT 15 t t.text [x])) ts dp) := Lib.hid (by rw [Hsp.out, Hn.out, hs] <;> rfl)
      clear Hsp
      try rw [hs]
      clear hs Hn
      have hne : (pTake en true) ts (dp) ≠ .out := fun h => Hr.out (Hsp71.out.trans (bind_out h))
      have Hc72 := Lib.hid (take_any bp true en ts (dp) w41 H42.out.ps hne)
      try unfold ptr at Hc72
      clear hne
      go_wp2_with fail
      refine Hc72.out.mono ?_
      rintro e w73 ⟨hg, hq⟩
      cases hm : (pTake en true) ts (dp) with
      | out => exact absurd (Hsp71.out.trans (bind_out hm)) Hr.out
      | err ex el ec =>
        rw [hm] at hq
        obtain rfl := hq
        have Hf : Hid (pArg en L ts dp = .err ex el ec) := Lib.hid (Hsp71.out.trans (bind_err hm))
        clear hm
        refine ⟨rfl, ?_⟩
        rw [Hf.out]
        exact ⟨grownBy_trans H42.out.grown hg, rfl⟩
      | ok x77 ts76 dq =>
        have hdq : dp = dq := by have := Inc.take _ _ _ _ _ _ hm; omega
        subst hdq
        rw [hm] at hq
        obtain ⟨hps, v, rfl, -⟩ := hq
        have H74 := Lib.hid (H42.out.call hg hps)
        have Hsp75 := Lib.hid (Hsp71.out.trans (bind_ok hm))
        clear hm hg hps Hc72 H42 Hsp71
        have hne : (pEat en [61]) ts76 (dp) ≠ .out := fun h => Hr.out (Hsp75.out.trans (bind_out h))
        have Hc78 := Lib.hid (eat_any bp ⟨#[61]⟩ en ts76 (dp) w73 H74.out.ps hne)
        try unfold ptr at Hc78
        clear hne
        go_wp2_with fail
        refine Hc78.out.mono ?_
        rintro e w79 ⟨hg, hq⟩
        cases hm : (pEat en [61]) ts76 (dp) with
        | out => exact absurd (Hsp75.out.trans (bind_out hm)) Hr.out
        | err ex el ec =>
          rw [hm] at hq
          obtain rfl := hq
          have Hf : Hid (pArg en L ts dp = .err ex el ec) := Lib.hid (Hsp75.out.trans (bind_err hm))
          clear hm
          refine ⟨rfl, ?_⟩
          rw [Hf.out]
          exact ⟨grownBy_trans H74.out.grown hg, rfl⟩
        | ok x83 ts82 dq =>
          have hdq : dp = dq := by have := Inc.eat _ _ _ _ _ _ hm; omega
          subst hdq
          rw [hm] at hq
          obtain ⟨hps, v, rfl, -⟩ := hq
          have H80 := Lib.hid (H74.out.call hg hps)
          have Hsp81 := Lib.hid (Hsp75.out.trans (bind_ok hm))
          clear hm hg hps Hc78 H74 Hsp75
          have H84 := Lib.hid H80.out.drew
          clear H80
          go_wp2_with fail
          refine wp_region_turns (.s 0 (.s 1 (.s 2 (.s 3 (.h 4 (.h 5 (.h 6 (.h 7 .nil)))))))) 7 (fun W' => W'.heap[b6]? = some (.cells #[.int .i64 t.kind, .string t.text, .int .i64 t.line, .int .i64 t.col] 81 (0, 0))) (by kernel_rfl) (by kernel_rfl) (fun c a d v w h => by cases d <;> exact h) (H84.out.at (by simp)) ?_
          refine turn_steady (tokV t) rfl rfl (fun W' hS => ?_) ?_
          · try unfold tokV
            try unfold ptr
            have hS0 := hS
            obtain ⟨s00, s01, s02, s03, s04⟩ := four_facts hS0
            clear hS0
            go_simp
          refine turn_steady (.pointer (some ⟨b6, 1, none⟩)) rfl rfl (fun W' hS => ?_) ?_
          · try unfold tokV
            try unfold ptr
            have hS0 := hS
            obtain ⟨s00, s01, s02, s03, s04⟩ := four_facts hS0
            clear hS0
            go_simp
          refine turn_steady (.string t.text) rfl rfl (fun W' hS => ?_) ?_
          · try unfold tokV
            try unfold ptr
            have hS0 := hS
            obtain ⟨s00, s01, s02, s03, s04⟩ := four_facts hS0
            clear hS0
            go_simp
          refine turn_steady (ptr bp) rfl rfl (fun W' hS => ?_) ?_
          · try unfold tokV
            try unfold ptr
            have hS0 := hS
            obtain ⟨s00, s01, s02, s03, s04⟩ := four_facts hS0
            clear hS0
            go_simp
          refine turn_heavy rfl (fun K85 hK85 => ?_)
          try unfold tokV ptr
          go_wp2_with fail
          have hne : (L.expr) ts82 (dp) ≠ .out := fun h => Hr.out (Hsp81.out.trans (bind_out h))
          have Hc86 := Lib.hid (Hx.out w79.drew ts82 (dp) H84.out.ps (by omega) (by omega) hne)
          try unfold ptr at Hc86
          clear hne
          refine Hc86.out.mono ?_
          rintro e w87 ⟨hg, hq⟩
          cases hm : (L.expr) ts82 (dp) with
          | out => exact absurd (Hsp81.out.trans (bind_out hm)) Hr.out
          | err ex el ec =>
            rw [hm] at hq
            obtain rfl := hq
            have Hf : Hid (pArg en L ts dp = .err ex el ec) := Lib.hid (Hsp81.out.trans (bind_err hm))
            clear hm
            refine ⟨rfl, ?_⟩
            rw [Hf.out]
            exact ⟨grownBy_trans H84.out.grown hg, rfl⟩
          | ok x91 ts90 dq =>
            have hdq : dp = dq := by have := hL.expr _ _ _ _ _ hm; omega
            subst hdq
            rw [hm] at hq
            obtain ⟨x91k, x91t, x91l, x91c, x91s⟩ := x91
            obtain ⟨hps, v, rfl, hv⟩ := hq
            obtain ⟨a92, cap93, rfl, hrow⟩ := NodeV.open hv
            have H88 := Lib.hid ((H84.out.call hg hps).row hrow H84.out.grown.size H84.out.lt)
            clear hv hrow
            have Hsp89 := Lib.hid (Hsp81.out.trans (bind_ok hm))
            clear hm hg hps Hc86 H84 Hsp81
            go_wp2_with fail
            refine hK85 _ _ (fun _ => H88.out.at (by simp)) ?_
            refine turn_heavy rfl (fun K94 hK94 => ?_)
            try unfold tokV ptr
            go_wp2_with fail
            have H95 := Lib.hid (H88.out.lit 51 [[.int .i64 x91k, .string x91t, .int .i64 x91l, .int .i64 x91c, .slice a92 x91s.length cap93]] [.mk x91k x91t x91l x91c x91s] rfl (by simp) rfl (fun j n c hj hc => by
              have hjl := (List.getElem?_eq_some_iff.1 hc).1
              simp only [List.length_cons, List.length_nil] at hjl
              obtain rfl : j = 0 := by omega
              · simp at hj hc
                subst hj hc
                exact ⟨_, _, _, _, _, _, _, rfl, rfl, .inl (by simp)⟩))
            clear H88
            refine hK94 _ _ (fun _ => H95.out.at (by simp)) ?_
            refine turn_heavy rfl (fun K96 hK96 => ?_)
            try unfold tokV ptr
            go_wp2_with fail
            have Hnd := Lib.hid (node_any 15 t t.text (some ⟨w87.heap.size, 0, none⟩) 1 1 (w87.alloc (.cells #[.int .i64 x91k, .string x91t, .int .i64 x91l, .int .i64 x91c, .slice a92 x91s.length cap93] 51)))
            unfold tokV nodeC at Hnd
            refine Hnd.out.mono ?_
            rintro e w97 ⟨rfl, hb⟩
            have H98 := Lib.hid (H95.out.below hb)
            clear hb Hnd H95
            go_wp2_with fail
            refine hK96 _ _ (fun _ => H98.out.at (by simp)) ?_
            obtain ⟨r99, r100, r101, r102, r103, r104, r105, r106, r107, r108, r109⟩ := five_facts (H98.out.at (b := w.heap.size) (cs := #[.int .i64 0, .string ⟨#[]⟩, .int .i64 0, .int .i64 0, .slice none 0 0]) (T := 51) (by simp))
            refine turn_heavy rfl (fun K110 hK110 => ?_)
            try unfold tokV ptr
            go_wp2_with fail
            refine hK110 _ _ (fun h => absurd rfl h) ?_
            refine turn_end ?_
            go_wp2_with fail
            refine bodyPost_ret (v := .agg #[.int .i64 15, .string t.text, .int .i64 t.line, .int .i64 t.col, .slice (some ⟨w87.heap.size, 0, none⟩) 1 1]) (by simp [results, Tryz.results103, go_sem, r99, r100, r101, r102, r103, r104]) rfl ?_
            have G := Lib.hid (H98.out.put5 1 rfl (.int .i64 15) (.string t.text) (.int .i64 t.line) (.int .i64 t.col) (.slice (some ⟨w87.heap.size, 0, none⟩) 1 1))
            rw [Hsp89.out]
            exact ⟨G.out.grown, G.out.ps, _, rfl, NodeV.mk _ _ _ _ _ (G.out.hand (by simp))⟩

end Go.Proofs.YtmmflgbhgjefmaaGreatDoor
namespace Go.Proofs.YtmmflgbhgjefmaaGreatDoor
open Go Go.RowKit

set_option maxRecDepth 100000 in
set_option maxHeartbeats 8000000 in
theorem sum_any (bp : Nat) (en : Int × Int) (L : Lvl) (hi : Inc 0 (pPrim en L)) (hx : Does 129 bp en VNode (pPrim en L)) : Does 96 bp en VNode (pSum en L) := by
  intro w ts dp hp hd0 hd1 hr
  have Hr := Lib.hid hr
  have Hx := Lib.hid hx
  clear hx
  have hsp : pSum en L ts dp = PM.bind (pPrim en L) (fun x ts d => pSumGo en L (ts.length + 1) x ts d) ts dp := rfl
  have Hsp := Lib.hid hsp
  have H0 := Lib.hid ((PI.start hp).alloc #[.int .i64 0, .string ⟨#[]⟩, .int .i64 0, .int .i64 0, .slice none 0 0] 51)
  clear hp hr hsp
  unfold ptr
  go_enter Tryz.func96, Tryz.ntmps96
  go_wp2_with fail
  have hne : (pPrim en L) ts (dp) ≠ .out := fun h => Hr.out (Hsp.out.trans (bind_out h))
  have Hc1 := Lib.hid (Hx.out (w.alloc (.cells #[.int .i64 0, .string ⟨#[]⟩, .int .i64 0, .int .i64 0, .slice none 0 0] 51)) ts (dp) H0.out.ps (by omega) (by omega) hne)
  try unfold ptr at Hc1
  clear hne
  refine Hc1.out.mono ?_
  rintro e w2 ⟨hg, hq⟩
  cases hm : (pPrim en L) ts (dp) with
  | out => exact absurd (Hsp.out.trans (bind_out hm)) Hr.out
  | err ex el ec =>
    rw [hm] at hq
    obtain rfl := hq
    have Hf : Hid (pSum en L ts dp = .err ex el ec) := Lib.hid (Hsp.out.trans (bind_err hm))
    clear hm
    refine ⟨rfl, ?_⟩
    rw [Hf.out]
    exact ⟨grownBy_trans H0.out.grown hg, rfl⟩
  | ok x6 ts5 dq =>
    have hdq : dp = dq := by have := hi _ _ _ _ _ hm; omega
    subst hdq
    rw [hm] at hq
    obtain ⟨x6k, x6t, x6l, x6c, x6s⟩ := x6
    obtain ⟨hps, v, rfl, hv⟩ := hq
    obtain ⟨a7, cap8, rfl, hrow⟩ := NodeV.open hv
    have H3 := Lib.hid ((H0.out.call hg hps).row hrow H0.out.grown.size H0.out.lt)
    clear hv hrow
    have Hsp4 := Lib.hid (Hsp.out.trans (bind_ok hm))
    clear hm hg hps Hc1 H0 Hsp
    have H10 := Lib.hid (H3.out.alloc #[.int .i64 x6k, .string x6t, .int .i64 x6l, .int .i64 x6c, .slice a7 x6s.length cap8] 51)
    clear H3
    obtain ⟨W9, hW⟩ : ∃ X, X = w2.alloc (.cells #[.int .i64 x6k, .string x6t, .int .i64 x6l, .int .i64 x6c, .slice a7 x6s.length cap8] 51) := ⟨_, rfl⟩
    rw [← hW] at H10
    have HW12 := Lib.hid hW
    clear hW
    generalize hb : w2.heap.size = b11 at H10
    have Hb13 := Lib.hid hb
    clear hb
    go_wp2_with fail
    rw [← HW12.out, Hb13.out]
    clear HW12 Hb13
    have Hsp14 : Hid (pSum en L ts dp = pSumGo en L (ts5.length + 1) (.mk x6k x6t x6l x6c x6s) ts5 dp) := Lib.hid (by rw [Hsp4.out] <;> rfl)
    clear Hsp4
    go_loopg [] (ts5.length + 1) (fun g wr => ∃ (k0 : Int) (t0 : ByteArray) (l0 c0 : Int) (kids0 : List Nd) (a0 : Option Addr) (cap0 : Nat) (ts1 : List Tok), Hid (pSum en L ts dp = pSumGo en L g (.mk k0 t0 l0 c0 kids0) ts1 dp) ∧ Hid (PI w bp en ts1 dp [(b11, #[.int .i64 k0, .string t0, .int .i64 l0, .int .i64 c0, .slice a0 kids0.length cap0], 51), (w.heap.size, #[.int .i64 0, .string ⟨#[]⟩, .int .i64 0, .int .i64 0, .slice none 0 0], 51)] [(a0, kids0)] wr))
    case atStart => exact ⟨_, _, _, _, _, _, _, _, Hsp14, H10⟩
    case round =>
      clear Hsp14 H10
      obtain ⟨k0, t0, l0, c0, kids0, a0, cap0, ts1, Hs0, Hi0⟩ := hrel
      cases gk with
      | zero => exact absurd Hs0.out Hr.out
      | succ g =>
        have Hc15 := Lib.hid (sign_any bp 0 ⟨#[43]⟩ en ts1 (dp) wr (by omega) Hi0.out.ps)
        try unfold ptr at Hc15
        go_wp2_with fail
        refine Hc15.out.mono ?_
        rintro e w16 ⟨rfl, hb⟩
        have H17 := Lib.hid (Hi0.out.below hb)
        clear hb Hc15 Hi0
        cases h1 : isSign en ts1 0 [43]
        · try rw [h1]
          have Hsp18 : Hid (pSum en L ts dp = PM.pure (.mk k0 t0 l0 c0 kids0) ts1 dp) := Lib.hid (by rw [Hs0.out, pSumGo, pLook, h1] <;> rfl)
          clear Hs0
          clear h1
          obtain ⟨r19, r20, r21, r22, r23, r24, r25, r26, r27, r28, r29⟩ := five_facts (H17.out.at (b := b11) (cs := #[.int .i64 k0, .string t0, .int .i64 l0, .int .i64 c0, .slice a0 kids0.length cap0]) (T := 51) (by simp))
          obtain ⟨r30, r31, r32, r33, r34, r35, r36, r37, r38, r39, r40⟩ := five_facts (H17.out.at (b := w.heap.size) (cs := #[.int .i64 0, .string ⟨#[]⟩, .int .i64 0, .int .i64 0, .slice none 0 0]) (T := 51) (by simp))
          go_wp2_with fail
          refine bodyPost_ret (v := .agg #[.int .i64 k0, .string t0, .int .i64 l0, .int .i64 c0, .slice a0 kids0.length cap0]) (by simp [results, Tryz.results96, go_sem, r30, r31, r32, r33, r34, r35]) rfl ?_
          have G := Lib.hid (H17.out.put5 1 rfl (.int .i64 k0) (.string t0) (.int .i64 l0) (.int .i64 c0) (.slice a0 kids0.length cap0))
          rw [Hsp18.out]
          exact ⟨G.out.grown, G.out.ps, _, rfl, NodeV.mk _ _ _ _ _ (G.out.hand (by simp))⟩
        · try rw [h1]
          have Hsp41 : Hid (pSum en L ts dp = PM.bind (pTake en true) (fun t => PM.bind (pPrim en L) fun y => pSumGo en L g (nodeT 16 t (bs [43]) [.mk k0 t0 l0 c0 kids0, y])) ts1 dp) := Lib.hid (by rw [Hs0.out, pSumGo, pLook, h1] <;> rfl)
          clear Hs0
          clear h1
          have hne : (pTake en true) ts1 (dp) ≠ .out := fun h => Hr.out (Hsp41.out.trans (bind_out h))
          have Hc42 := Lib.hid (take_any bp true en ts1 (dp) w16 H17.out.ps hne)
          try unfold ptr at Hc42
          clear hne
          go_wp2_with fail
          refine Hc42.out.mono ?_
          rintro e w43 ⟨hg, hq⟩
          cases hm : (pTake en true) ts1 (dp) with
          | out => exact absurd (Hsp41.out.trans (bind_out hm)) Hr.out
          | err ex el ec =>
            rw [hm] at hq
            obtain rfl := hq
            have Hf : Hid (pSum en L ts dp = .err ex el ec) := Lib.hid (Hsp41.out.trans (bind_err hm))
            clear hm
            refine ⟨rfl, ?_⟩
            rw [Hf.out]
            exact ⟨grownBy_trans H17.out.grown hg, rfl⟩
          | ok x47 ts46 dq =>
            have hdq : dp = dq := by have := Inc.take _ _ _ _ _ _ hm; omega
            subst hdq
            rw [hm] at hq
            obtain ⟨hps, v, rfl, rfl⟩ := hq
            have H44 := Lib.hid (H17.out.call hg hps)
            try unfold tokV
            have Hsp45 := Lib.hid (Hsp41.out.trans (bind_ok hm))
            clear hm hg hps Hc42 H17 Hsp41
            have H49 := Lib.hid (H44.out.alloc #[.int .i64 x47.kind, .string x47.text, .int .i64 x47.line, .int .i64 x47.col] 81)
            clear H44
            obtain ⟨W48, hW⟩ : ∃ X, X = w43.alloc (.cells #[.int .i64 x47.kind, .string x47.text, .int .i64 x47.line, .int .i64 x47.col] 81) := ⟨_, rfl⟩
            rw [← hW] at H49
            have HW51 := Lib.hid hW
            clear hW
            generalize hb : w43.heap.size = b50 at H49
            have Hb52 := Lib.hid hb
            clear hb
            go_wp2_with fail
            rw [← HW51.out, Hb52.out]
            clear HW51 Hb52
            have H53 := Lib.hid H49.out.drew
            clear H49
            go_wp2_with fail
            refine wp_region_turns (.s 0 (.s 1 (.s 2 (.h 3 (.h 4 (.h 5 (.h 6 .nil))))))) 6 (fun W' => W'.heap[b50]? = some (.cells #[.int .i64 x47.kind, .string x47.text, .int .i64 x47.line, .int .i64 x47.col] 81 (0, 0)) ∧ W'.heap[b11]? = some (.cells #[.int .i64 k0, .string t0, .int .i64 l0, .int .i64 c0, .slice a0 kids0.length cap0] 51 (0, 0))) (by kernel_rfl) (by kernel_rfl) (fun c a d v w h => by cases d <;> exact h) (⟨H53.out.at (by simp), H53.out.at (by simp)⟩) ?_
            refine turn_steady (tokV x47) rfl rfl (fun W' hS => ?_) ?_
            · try unfold tokV
              try unfold ptr
              obtain ⟨hS0, hS1⟩ := hS
              obtain ⟨s00, s01, s02, s03, s04⟩ := four_facts hS0
              clear hS0
              obtain ⟨s10, s11, s12, s13, s14, s15, s16, s17, s18, s19, s110⟩ := five_facts hS1
              clear hS1
              go_simp
            refine turn_steady (.agg #[.int .i64 k0, .string t0, .int .i64 l0, .int .i64 c0, .slice a0 kids0.length cap0]) rfl rfl (fun W' hS => ?_) ?_
            · try unfold tokV
              try unfold ptr
              obtain ⟨hS0, hS1⟩ := hS
              obtain ⟨s00, s01, s02, s03, s04⟩ := four_facts hS0
              clear hS0
              obtain ⟨s10, s11, s12, s13, s14, s15, s16, s17, s18, s19, s110⟩ := five_facts hS1
              clear hS1
              go_simp
            refine turn_steady (ptr bp) rfl rfl (fun W' hS => ?_) ?_
            · try unfold tokV
              try unfold ptr
              obtain ⟨hS0, hS1⟩ := hS
              obtain ⟨s00, s01, s02, s03, s04⟩ := four_facts hS0
              clear hS0
              obtain ⟨s10, s11, s12, s13, s14, s15, s16, s17, s18, s19, s110⟩ := five_facts hS1
              clear hS1
              go_simp
            refine turn_heavy rfl (fun K54 hK54 => ?_)
            try unfold tokV ptr
            go_wp2_with fail
            have hne : (pPrim en L) ts46 (dp) ≠ .out := fun h => Hr.out (Hsp45.out.trans (bind_out h))
            have Hc55 := Lib.hid (Hx.out W48.drew ts46 (dp) H53.out.ps (by omega) (by omega) hne)
            try unfold ptr at Hc55
            clear hne
            refine Hc55.out.mono ?_
            rintro e w56 ⟨hg, hq⟩
            cases hm : (pPrim en L) ts46 (dp) with
            | out => exact absurd (Hsp45.out.trans (bind_out hm)) Hr.out
            | err ex el ec =>
              rw [hm] at hq
              obtain rfl := hq
              have Hf : Hid (pSum en L ts dp = .err ex el ec) := Lib.hid (Hsp45.out.trans (bind_err hm))
              clear hm
              refine ⟨rfl, ?_⟩
              rw [Hf.out]
              exact ⟨grownBy_trans H53.out.grown hg, rfl⟩
            | ok x60 ts59 dq =>
              have hdq : dp = dq := by have := hi _ _ _ _ _ hm; omega
              subst hdq
              rw [hm] at hq
              obtain ⟨x60k, x60t, x60l, x60c, x60s⟩ := x60
              obtain ⟨hps, v, rfl, hv⟩ := hq
              obtain ⟨a61, cap62, rfl, hrow⟩ := NodeV.open hv
              have H57 := Lib.hid ((H53.out.call hg hps).row hrow H53.out.grown.size H53.out.lt)
              clear hv hrow
              have Hsp58 := Lib.hid (Hsp45.out.trans (bind_ok hm))
              clear hm hg hps Hc55 H53 Hsp45
              go_wp2_with fail
              refine hK54 _ _ (fun _ => ⟨H57.out.at (by simp), H57.out.at (by simp)⟩) ?_
              refine turn_heavy rfl (fun K63 hK63 => ?_)
              try unfold tokV ptr
              go_wp2_with fail
              have H64 := Lib.hid (H57.out.lit 51 [[.int .i64 k0, .string t0, .int .i64 l0, .int .i64 c0, .slice a0 kids0.length cap0], [.int .i64 x60k, .string x60t, .int .i64 x60l, .int .i64 x60c, .slice a61 x60s.length cap62]] [.mk k0 t0 l0 c0 kids0, .mk x60k x60t x60l x60c x60s] rfl (by simp) rfl (fun j n c hj hc => by
                have hjl := (List.getElem?_eq_some_iff.1 hc).1
                simp only [List.length_cons, List.length_nil] at hjl
                obtain rfl | rfl : j = 0 ∨ j = 1 := by omega
                · simp at hj hc
                  subst hj hc
                  exact ⟨_, _, _, _, _, _, _, rfl, rfl, .inl (by simp)⟩
                · simp at hj hc
                  subst hj hc
                  exact ⟨_, _, _, _, _, _, _, rfl, rfl, .inl (by simp)⟩))
              clear H57
              refine hK63 _ _ (fun _ => ⟨H64.out.at (by simp), H64.out.at (by simp)⟩) ?_
              refine turn_heavy rfl (fun K65 hK65 => ?_)
              try unfold tokV ptr
              go_wp2_with fail
              have Hnd := Lib.hid (node_any 16 x47 ⟨#[43]⟩ (some ⟨w56.heap.size, 0, none⟩) 2 2 (w56.alloc (.cells #[.int .i64 k0, .string t0, .int .i64 l0, .int .i64 c0, .slice a0 kids0.length cap0, .int .i64 x60k, .string x60t, .int .i64 x60l, .int .i64 x60c, .slice a61 x60s.length cap62] 51)))
              unfold tokV nodeC at Hnd
              refine Hnd.out.mono ?_
              rintro e w66 ⟨rfl, hb⟩
              have H67 := Lib.hid (H64.out.below hb)
              clear hb Hnd H64
              go_wp2_with fail
              refine hK65 _ _ (fun _ => ⟨H67.out.at (by simp), H67.out.at (by simp)⟩) ?_
              obtain ⟨r68, r69, r70, r71, r72, r73, r74, r75, r76, r77, r78⟩ := five_facts (H67.out.at (b := b11) (cs := #[.int .i64 k0, .string t0, .int .i64 l0, .int .i64 c0, .slice a0 kids0.length cap0]) (T := 51) (by simp))
              refine turn_heavy rfl (fun K79 hK79 => ?_)
              try unfold tokV ptr
              go_wp2_with fail
              refine hK79 _ _ (fun h => absurd rfl h) ?_
              refine turn_end ?_
              go_wp2_with fail
              go_roundg g
              case measure => omega
              case rel => exact ⟨_, _, _, _, _, _, _, _, Hsp58, Lib.hid ((H67.out.put5 1 rfl (.int .i64 16) (.string ⟨#[43]⟩) (.int .i64 x47.line) (.int .i64 x47.col) (.slice (some ⟨w56.heap.size, 0, none⟩) 2 2)).less (r2 := [((some ⟨w56.heap.size, 0, none⟩), [.mk k0 t0 l0 c0 kids0, .mk x60k x60t x60l x60c x60s])]) (List.sublist_cons_self _ _) (by simp))⟩

end Go.Proofs.YtmmflgbhgjefmaaGreatDoor
