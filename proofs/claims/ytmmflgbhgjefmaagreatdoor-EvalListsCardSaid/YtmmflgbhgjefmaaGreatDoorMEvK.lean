/-
  The walks of the evaluator's expr, kind by kind. (Printed by ev_gen.py.)
  The evaluator's expr, all kinds together.
  How the evaluator's list stands on its way: what is gathered so far.
-/
import Derived.Test.YtmmflgbhgjefmaaGreatDoorMAliveTree
namespace Go.Proofs.YtmmflgbhgjefmaaGreatDoor
open Go Go.RowKit Go.Maps Go.WideMaps

theorem MS.look_all {c : Ctx} {w : World} {mp mb : Nat} {hv : Value} {st : St} (h : MS c w mp mb hv st) (s : ByteArray) (hs : s.size ≤ maxLen) :
    (lookN st.names s = none ∧ ∀ W', W'.heap[mb]? = w.heap[mb]? → (Instr.lookup 85 (.map (some mb)) (.string s) true).run Tryz.prog W' = .ok (.tuple #[zeroV, .bool false]) W') ∨
      ∃ v cs, lookN st.names s = some v ∧ AggAt c.F w (valD v) cs ∧ checkV v = true ∧ ∀ W', W'.heap[mb]? = w.heap[mb]? → (Instr.lookup 85 (.map (some mb)) (.string s) true).run Tryz.prog W' = .ok (.tuple #[.agg cs.toArray, .bool true]) W' := by
  obtain ⟨m, h1, h2⟩ := h.names
  have hk := namesKeys h2 (fun q hq => (h.few q hq).2)
  have look := fun (W : World) (hW : W.heap[mb]? = w.heap[mb]?) => (h1.of_block hW).look true (string_keyed Tryz.underlying9) Tryz.underlying85 (zeroValueV W) hk (keyOf_string_mk Tryz.underlying9 hs)
  by_cases hf : ∃ (j : Nat) (v : Value), m[j]? = some (.string s, v)
  · obtain ⟨j, v, h3⟩ := hf
    have hjl := (List.getElem?_eq_some_iff.1 h3).1
    have hn : st.names[j]? = some (st.names[j]'(by rw [← h2.1]; exact hjl)) := List.getElem?_eq_getElem _
    obtain ⟨h5, cs, h6, h7⟩ := h2.2 j _ _ h3 hn
    have hs' : s = (st.names[j]'(by rw [← h2.1]; exact hjl)).1 := by injection h5
    have h6' : v = .agg cs.toArray := h6
    refine .inr ⟨(st.names[j]'(by rw [← h2.1]; exact hjl)).2, cs, lookN_some h.uniq (j := j) (by rw [hn, hs']), h7, (h.few _ (List.mem_of_getElem? hn)).1, fun W' hW => ?_⟩
    rcases look W' hW with ⟨h8, -⟩ | ⟨j', v', h8, h9⟩
    · exact absurd rfl (h8 _ (List.mem_of_getElem? h3))
    · have hj' := (List.getElem?_eq_some_iff.1 h8).1
      have hn' : st.names[j']? = some (st.names[j']'(by rw [← h2.1]; exact hj')) := List.getElem?_eq_getElem _
      obtain ⟨h10, -⟩ := h2.2 j' _ _ h8 hn'
      have hs2 : s = (st.names[j']'(by rw [← h2.1]; exact hj')).1 := by injection h10
      have hjj : j = j' := (List.getElem?_inj (by rw [List.length_map, ← h2.1]; exact hjl) h.uniq).1 (by rw [List.getElem?_map, List.getElem?_map, hn, hn']; simp [← hs', ← hs2])
      subst hjj
      rw [h3] at h8
      cases h8
      rw [h9, h6']
      rfl
  · refine .inl ⟨lookN_none fun q hq e => ?_, fun W' hW => ?_⟩
    · obtain ⟨j, hj⟩ := List.getElem?_of_mem hq
      have hjl := (List.getElem?_eq_some_iff.1 hj).1
      have hm : m[j]? = some (m[j]'(by rw [h2.1]; exact hjl)) := List.getElem?_eq_getElem _
      obtain ⟨h5, -⟩ := h2.2 j _ q hm hj
      exact hf ⟨j, (m[j]'(by rw [h2.1]; exact hjl)).2, by rw [hm, ← e, ← h5]⟩
    · rcases look W' hW with ⟨-, h9⟩ | ⟨j', v', h8, -⟩
      · exact h9
      · exact absurd ⟨j', v', h8⟩ hf

theorem checkV_int (x : Int) : checkV (.mk 2 x ⟨#[]⟩ [] []) = true := by
  have h : (⟨#[]⟩ : ByteArray).toList.isEmpty = true := by rw [Lib.toList_data]; rfl
  simp [checkV, mayV, mayVs, nodeOk, h]
theorem fixed_check {s : ByteArray} {v : Vl} (h : fixedV s = some v) : checkV v = true := by
  have h0 : (⟨#[]⟩ : ByteArray).toList.isEmpty = true := by rw [Lib.toList_data]; rfl
  unfold fixedV at h
  split at h
  · cases h; simp [checkV, mayV, mayVs, nodeOk, h0]
  · split at h
    · cases h; simp [checkV, mayV, mayVs, nodeOk, h0]
    · split at h
      · cases h; simp [vZero, checkV, mayV, mayVs, nodeOk, h0]
      · cases h
set_option maxRecDepth 100000 in
set_option maxHeartbeats 2000000 in
theorem expr_num (mp mb : Nat) (hv : Value) (G : Nat → Prop) (c : Ctx) (w : World) (st : St) (t : ByteArray) (l k : Int) (kids : List Nd) (a : Option Addr) (cap : Nat) (hm : MS c w mp mb hv st) (hG : GOk G c w) (hr : RowAt G w a (nodesD kids)) (hle : ¬ st.left ≤ 0) (x : Int) (hx : smallNum t = some x) :
    Calls Tryz.prog 79 #[ptr mp, .agg #[.int .i64 10, .string t, .int .i64 l, .int .i64 k, .slice a kids.length cap]] w (EP mp mb hv EVal badV c (.ok (.mk 2 x ⟨#[]⟩ [] []) { st with left := st.left - 1 }) w) := by
  have H0 := Lib.hid (XB.start hm.ok #[.int .i64 10, .string t, .int .i64 l, .int .i64 k, .slice a kids.length cap] #[.int .i64 0, .int .i64 0, .string ⟨#[]⟩, .slice none 0 0, .slice none 0 0] #[.int .i64 0, .int .i64 0, .int .i64 0])
  have Hx := Lib.hid hx
  clear hx
  have Hst := Lib.hid (step_any c mp mb hv st l k _ (hm.below (alloc3 w (.cells #[.int .i64 10, .string t, .int .i64 l, .int .i64 k, .slice a kids.length cap] 51) (.cells #[.int .i64 0, .int .i64 0, .string ⟨#[]⟩, .slice none 0 0, .slice none 0 0] 31) (.cells #[.int .i64 0, .int .i64 0, .int .i64 0] 89)).2.2.2.1))
  rw [show eStep l k st = .ok () { st with left := st.left - 1 } from if_neg hle] at Hst
  have HG := Lib.hid hG
  have Hr := Lib.hid hr
  clear hm hG hr hle
  unfold ptr at Hst ⊢
  go_enter Tryz.func79, Tryz.ntmps79
  go_wp2_with fail
  refine Hst.out.mono ?_
  rintro e w1 ⟨c1, hmv, hms, v1, rfl, hv1⟩
  obtain rfl : v1 = faultV 0 0 0 := hv1
  have HG1 := Lib.hid (HG.out.mv (H0.out.mv.trans hmv))
  have Hr1 := Lib.hid (Hr.out.gmv HG.out (H0.out.mv.trans hmv))
  have H1 := Lib.hid (H0.out.later hmv)
  have Hm1 := Lib.hid hms
  clear hmv hms Hst H0 HG Hr
  unfold faultV
  obtain ⟨r0, r1, r2, r3, r4, r5, r6, r7, r8, r9, r10⟩ := five_facts H1.out.na
  go_wp2_with fail
  refine (packInt_small t x Hx.out _).mono ?_
  rintro e w2 ⟨rfl, hb2⟩
  have hb3 : Below w1.heap.size w1 w2 := ((Below.refl _ w1).alloc (Nat.le_refl _) _).trans (hb2.mono (by simp))
  have H2 := Lib.hid (H1.out.below hb3)
  have Hm2 := Lib.hid (Hm1.out.below hb3)
  clear hb2 hb3 H1 Hm1 r0 r1 r2 r3 r4 r5 r6 r7 r8 r9 r10
  obtain ⟨s0, s1, s2, s3, s4, s5, s6, s7, s8, s9, s10⟩ := five_facts H2.out.vb
  obtain ⟨d0, d1, d2, d3, d4, d5, d6⟩ := three_facts H2.out.fc
  go_wp2_with fail
  refine bodyPost_ret (v := .tuple #[.agg #[.int .i64 2, .int .i64 x, .string ⟨#[]⟩, .slice none 0 0, .slice none 0 0], faultV 0 0 0]) (by simp [faultV, results, Tryz.results79, go_sem, s0, s1, s2, s3, s4, s5, d0, d1, d2, d3]) rfl ?_
  have H3 := H2.out.setV (.int .i64 2) (.int .i64 x) (.string ⟨#[]⟩) (.slice none 0 0) (.slice none 0 0)
  have Hm3 := H2.out.msV Hm2.out (.int .i64 2) (.int .i64 x) (.string ⟨#[]⟩) (.slice none 0 0) (.slice none 0 0)
  exact ⟨c1, (H3.setF (.int .i64 0) (.int .i64 0) (.int .i64 0)).mv, H3.msF Hm3 (.int .i64 0) (.int .i64 0) (.int .i64 0), _, rfl, [_, _, _, _, _], rfl, AggAt.val_mk (l := []) (ks := []) _ _ _ _ _ (RowAt.nil _) (RowAt.nil _), checkV_int x⟩

set_option maxRecDepth 100000 in
set_option maxHeartbeats 2000000 in
theorem expr_stop (kk : Int) (mp mb : Nat) (hv : Value) (G : Nat → Prop) (c : Ctx) (w : World) (st : St) (t : ByteArray) (l k : Int) (kids : List Nd) (a : Option Addr) (cap : Nat) (hm : MS c w mp mb hv st) (hG : GOk G c w)  (hle : st.left ≤ 0) :
    Calls Tryz.prog 79 #[ptr mp, .agg #[.int .i64 kk, .string t, .int .i64 l, .int .i64 k, .slice a kids.length cap]] w (EP mp mb hv EVal badV c (.err 12 l k) w) := by
  have H0 := Lib.hid (XB.start hm.ok #[.int .i64 kk, .string t, .int .i64 l, .int .i64 k, .slice a kids.length cap] #[.int .i64 0, .int .i64 0, .string ⟨#[]⟩, .slice none 0 0, .slice none 0 0] #[.int .i64 0, .int .i64 0, .int .i64 0])
  have Hst := Lib.hid (step_any c mp mb hv st l k _ (hm.below (alloc3 w (.cells #[.int .i64 kk, .string t, .int .i64 l, .int .i64 k, .slice a kids.length cap] 51) (.cells #[.int .i64 0, .int .i64 0, .string ⟨#[]⟩, .slice none 0 0, .slice none 0 0] 31) (.cells #[.int .i64 0, .int .i64 0, .int .i64 0] 89)).2.2.2.1))
  rw [show eStep l k st = .err 12 l k from if_pos hle] at Hst
  clear hm hG hle
  unfold ptr at Hst ⊢
  go_enter Tryz.func79, Tryz.ntmps79
  go_wp2_with fail
  refine Hst.out.mono ?_
  rintro e w1 ⟨c1, hmv, rfl⟩
  have H1 := Lib.hid (H0.out.later hmv)
  clear hmv Hst H0
  unfold faultV
  go_upto_region 3 with fail
  have hb1 : Below w1.heap.size w1 (w1.alloc (.cells #[.int .i64 12, .int .i64 l, .int .i64 k] 89)) := (Below.refl _ w1).alloc (Nat.le_refl _) _
  have Hf := Lib.hid (heap_alloc_new w1 (.cells #[.int .i64 12, .int .i64 l, .int .i64 k] 89))
  have H2 := Lib.hid (H1.out.below hb1)
  have hsz := H1.out.size
  generalize World.alloc _ _ = W at H2 Hf ⊢
  generalize w1.heap.size = fb at Hf hsz ⊢
  clear hb1 H1
  refine wp_region_turns (.s 0 (.s 1 (.h 2 (.h 3 .nil)))) 99 (fun W' => W'.heap[fb]? = some (.cells #[.int .i64 12, .int .i64 l, .int .i64 k] 89 (0, 0))) (by kernel_rfl) (by kernel_rfl) (fun c a d v w h => by cases d <;> exact h) Hf.out ?_
  have H5 := Lib.hid (H2.out.below ((Below.refl _ W).drew))
  have Hf5 : Hid (W.drew.heap[fb]? = some (.cells #[.int .i64 12, .int .i64 l, .int .i64 k] 89 (0, 0))) := Lib.hid Hf.out
  generalize W.drew = Wd at H5 Hf5 ⊢
  clear H2 Hf
  refine turn_steady (.agg #[.int .i64 0, .int .i64 0, .string ⟨#[]⟩, .slice none 0 0, .slice none 0 0]) rfl rfl (fun W' hS => ?_) ?_
  · go_simp
  try simp only [List.getElem_toArray, List.getElem_cons_succ, List.getElem_cons_zero, Act.put, List.setIfInBounds_toArray, List.set_cons_zero, List.set_cons_succ]
  refine turn_steady (.agg #[.int .i64 12, .int .i64 l, .int .i64 k]) rfl rfl (fun W' hS => ?_) ?_
  · obtain ⟨s0, s1, s2, s3, s4, s5, s6⟩ := three_facts hS
    clear hS
    go_simp
  try simp only [List.getElem_toArray, List.getElem_cons_succ, List.getElem_cons_zero, Act.put, List.setIfInBounds_toArray, List.set_cons_zero, List.set_cons_succ]
  obtain ⟨s0, s1, s2, s3, s4, s5, s6, s7, s8, s9, s10⟩ := five_facts H5.out.vb
  refine turn_heavy rfl (fun Kx hKx => ?_)
  go_wp2_with fail
  have H6 := Lib.hid (H5.out.setV (.int .i64 0) (.int .i64 0) (.string ⟨#[]⟩) (.slice none 0 0) (.slice none 0 0))
  have Hf6 := Lib.hid ((set5_other (W := Wd) (b := w.heap.size + 1) (k := fb) (by omega) (.int .i64 0) (.int .i64 0) (.string ⟨#[]⟩) (.slice none 0 0) (.slice none 0 0)).trans Hf5.out)
  unfold set5 at H6
  refine hKx _ _ (fun _ => Hf6.out) ?_
  generalize World.setCell _ _ _ = W6 at H6 Hf6 ⊢
  try simp only [List.getElem_toArray, List.getElem_cons_succ, List.getElem_cons_zero, Act.put, List.setIfInBounds_toArray, List.set_cons_zero, List.set_cons_succ]
  clear s0 s1 s2 s3 s4 s5 s6 s7 s8 s9 s10 hKx H5 Hf5
  obtain ⟨d0, d1, d2, d3, d4, d5, d6⟩ := three_facts H6.out.fc
  refine turn_heavy rfl (fun Ky hKy => ?_)
  go_wp2_with fail
  have H7 := Lib.hid (H6.out.setF (.int .i64 12) (.int .i64 l) (.int .i64 k))
  unfold set3 at H7
  refine hKy _ _ (fun _ => ((((set_other (by omega) 2 _).trans (set_other (by omega) 1 _)).trans (set_other (by omega) 0 _)).trans Hf6.out)) ?_
  generalize World.setCell _ _ _ = W7 at H7 ⊢
  refine turn_end ?_
  try simp only [List.getElem_toArray, List.getElem_cons_succ, List.getElem_cons_zero, Act.put, List.setIfInBounds_toArray, List.set_cons_zero, List.set_cons_succ]
  clear d0 d1 d2 d3 d4 d5 d6 hKy H6 Hf6
  obtain ⟨s0, s1, s2, s3, s4, s5, s6, s7, s8, s9, s10⟩ := five_facts H7.out.vb
  obtain ⟨d0, d1, d2, d3, d4, d5, d6⟩ := three_facts H7.out.fc
  go_wp2_with fail
  refine bodyPost_ret (v := badV 12 l k) (by simp [badV, zeroV, faultV, results, Tryz.results79, go_sem, s0, s1, s2, s3, s4, s5, d0, d1, d2, d3]) rfl ?_
  exact ⟨_, H7.out.mv, rfl⟩

set_option maxRecDepth 100000 in
set_option maxHeartbeats 2000000 in
theorem expr_list (mp mb : Nat) (hv : Value) (G : Nat → Prop) (c : Ctx) (w : World) (st : St) (t : ByteArray) (l k : Int) (kids : List Nd) (a : Option Addr) (cap : Nat) (hm : MS c w mp mb hv st) (hG : GOk G c w) (hr : RowAt G w a (nodesD kids)) (hle : ¬ st.left ≤ 0) (hsn : smallN (.mk 12 t l k kids)) (ex : Nd → EM Vl) (hl : XDoes 108 mp mb hv ex) (hne : ex (.mk 12 t l k kids) { st with left := st.left - 1 } ≠ .out) :
    Calls Tryz.prog 79 #[ptr mp, .agg #[.int .i64 12, .string t, .int .i64 l, .int .i64 k, .slice a kids.length cap]] w (EP mp mb hv EVal badV c (ex (.mk 12 t l k kids) { st with left := st.left - 1 }) w) := by
  have H0 := Lib.hid (XB.start hm.ok #[.int .i64 12, .string t, .int .i64 l, .int .i64 k, .slice a kids.length cap] #[.int .i64 0, .int .i64 0, .string ⟨#[]⟩, .slice none 0 0, .slice none 0 0] #[.int .i64 0, .int .i64 0, .int .i64 0])
  have Hl := Lib.hid hl
  have Hsn := Lib.hid hsn
  have Hne := Lib.hid hne
  clear hl hsn hne
  have Hst := Lib.hid (step_any c mp mb hv st l k _ (hm.below (alloc3 w (.cells #[.int .i64 12, .string t, .int .i64 l, .int .i64 k, .slice a kids.length cap] 51) (.cells #[.int .i64 0, .int .i64 0, .string ⟨#[]⟩, .slice none 0 0, .slice none 0 0] 31) (.cells #[.int .i64 0, .int .i64 0, .int .i64 0] 89)).2.2.2.1))
  rw [show eStep l k st = .ok () { st with left := st.left - 1 } from if_neg hle] at Hst
  have HG := Lib.hid hG
  have Hr := Lib.hid hr
  clear hm hG hr hle
  unfold ptr at Hst ⊢
  go_enter Tryz.func79, Tryz.ntmps79
  go_wp2_with fail
  refine Hst.out.mono ?_
  rintro e w1 ⟨c1, hmv, hms, v1, rfl, hv1⟩
  obtain rfl : v1 = faultV 0 0 0 := hv1
  have HG1 := Lib.hid (HG.out.mv (H0.out.mv.trans hmv))
  have Hr1 := Lib.hid (Hr.out.gmv HG.out (H0.out.mv.trans hmv))
  have H1 := Lib.hid (H0.out.later hmv)
  have Hm1 := Lib.hid hms
  clear hmv hms Hst H0 HG Hr
  unfold faultV
  obtain ⟨r0, r1, r2, r3, r4, r5, r6, r7, r8, r9, r10⟩ := five_facts H1.out.na
  have hb1 : Below w1.heap.size w1 (w1.alloc (.cells #[.int .i64 0, .int .i64 0, .int .i64 0] 89)) := (Below.refl _ w1).alloc (Nat.le_refl _) _
  have Hc := Lib.hid (Hl.out G c1 _ { st with left := st.left - 1 } (.mk 12 t l k kids) _ (Hm1.out.below hb1) (HG1.out.mv (.of_below c1 hb1)) (NodeV.mk _ _ _ _ cap (Hr1.out.below hb1)) Hsn.out Hne.out)
  have H2 := Lib.hid (H1.out.below hb1)
  unfold ptr at Hc
  clear hb1
  go_wp2_with fail
  refine Hc.out.mono ?_
  rintro e w2 ⟨c2, hmv, hq⟩
  have H3 := Lib.hid (H2.out.later hmv)
  clear hmv Hc H2 H1 Hm1 r0 r1 r2 r3 r4 r5 r6 r7 r8 r9 r10 HG1 Hr1
  obtain ⟨s0, s1, s2, s3, s4, s5, s6, s7, s8, s9, s10⟩ := five_facts H3.out.vb
  obtain ⟨d0, d1, d2, d3, d4, d5, d6⟩ := three_facts H3.out.fc
  cases hx : ex (.mk 12 t l k kids) { st with left := st.left - 1 } with
  | out => exact absurd hx Hne.out
  | err x y z =>
    rw [hx] at hq
    obtain rfl := hq
    unfold badV zeroV faultV
    have Hres := Lib.hid hx
    clear hx
    go_wp2_with fail
    refine bodyPost_ret (v := badV x y z) (by simp [badV, zeroV, faultV, results, Tryz.results79, go_sem, s0, s1, s2, s3, s4, s5, d0, d1, d2, d3]) rfl ?_
    rw [Hres.out]
    exact ⟨c2, ((H3.out.setV (.int .i64 0) (.int .i64 0) (.string ⟨#[]⟩) (.slice none 0 0) (.slice none 0 0)).setF (.int .i64 x) (.int .i64 y) (.int .i64 z)).mv, rfl⟩
  | ok x st2 =>
    rw [hx] at hq
    obtain ⟨hms2, v2, rfl, cs, rfl, hagg, hck⟩ := hq
    obtain ⟨xk, xn, xs, xl, xks⟩ := x
    obtain ⟨b1, e1, b2, e2, rfl, hr1, hr2⟩ := hagg.val
    have Hm3 := Lib.hid hms2
    have Hagg := Lib.hid hagg
    have Hck := Lib.hid hck
    unfold faultV
    have Hres := Lib.hid hx
    clear hx hms2 hagg hck hr1 hr2
    go_wp2_with fail
    refine bodyPost_ret (v := .tuple #[.agg #[.int .i64 xk, .int .i64 xn, .string xs, .slice b1 xl.length e1, .slice b2 xks.length e2], faultV 0 0 0]) (by simp [faultV, results, Tryz.results79, go_sem, s0, s1, s2, s3, s4, s5, d0, d1, d2, d3]) rfl ?_
    have H4 := H3.out.setV (.int .i64 xk) (.int .i64 xn) (.string xs) (.slice b1 xl.length e1) (.slice b2 xks.length e2)
    have Hm4 := H3.out.msV Hm3.out (.int .i64 xk) (.int .i64 xn) (.string xs) (.slice b1 xl.length e1) (.slice b2 xks.length e2)
    have Ha4 := H3.out.aggV Hagg.out (.int .i64 xk) (.int .i64 xn) (.string xs) (.slice b1 xl.length e1) (.slice b2 xks.length e2)
    rw [Hres.out]
    exact ⟨c2, (H4.setF (.int .i64 0) (.int .i64 0) (.int .i64 0)).mv, H4.msF Hm4 (.int .i64 0) (.int .i64 0) (.int .i64 0), _, rfl, [_, _, _, _, _], rfl, H4.aggF Ha4 (.int .i64 0) (.int .i64 0) (.int .i64 0), Hck.out⟩

set_option maxRecDepth 100000 in
set_option maxHeartbeats 2000000 in
theorem expr_op (mp mb : Nat) (hv : Value) (G : Nat → Prop) (c : Ctx) (w : World) (st : St) (t : ByteArray) (l k : Int) (kids : List Nd) (a : Option Addr) (cap : Nat) (hm : MS c w mp mb hv st) (hG : GOk G c w) (hr : RowAt G w a (nodesD kids)) (hle : ¬ st.left ≤ 0) (hsn : smallN (.mk 16 t l k kids)) (ex : Nd → EM Vl) (hl : XDoes 111 mp mb hv ex) (hne : ex (.mk 16 t l k kids) { st with left := st.left - 1 } ≠ .out) :
    Calls Tryz.prog 79 #[ptr mp, .agg #[.int .i64 16, .string t, .int .i64 l, .int .i64 k, .slice a kids.length cap]] w (EP mp mb hv EVal badV c (ex (.mk 16 t l k kids) { st with left := st.left - 1 }) w) := by
  have H0 := Lib.hid (XB.start hm.ok #[.int .i64 16, .string t, .int .i64 l, .int .i64 k, .slice a kids.length cap] #[.int .i64 0, .int .i64 0, .string ⟨#[]⟩, .slice none 0 0, .slice none 0 0] #[.int .i64 0, .int .i64 0, .int .i64 0])
  have Hl := Lib.hid hl
  have Hsn := Lib.hid hsn
  have Hne := Lib.hid hne
  clear hl hsn hne
  have Hst := Lib.hid (step_any c mp mb hv st l k _ (hm.below (alloc3 w (.cells #[.int .i64 16, .string t, .int .i64 l, .int .i64 k, .slice a kids.length cap] 51) (.cells #[.int .i64 0, .int .i64 0, .string ⟨#[]⟩, .slice none 0 0, .slice none 0 0] 31) (.cells #[.int .i64 0, .int .i64 0, .int .i64 0] 89)).2.2.2.1))
  rw [show eStep l k st = .ok () { st with left := st.left - 1 } from if_neg hle] at Hst
  have HG := Lib.hid hG
  have Hr := Lib.hid hr
  clear hm hG hr hle
  unfold ptr at Hst ⊢
  go_enter Tryz.func79, Tryz.ntmps79
  go_wp2_with fail
  refine Hst.out.mono ?_
  rintro e w1 ⟨c1, hmv, hms, v1, rfl, hv1⟩
  obtain rfl : v1 = faultV 0 0 0 := hv1
  have HG1 := Lib.hid (HG.out.mv (H0.out.mv.trans hmv))
  have Hr1 := Lib.hid (Hr.out.gmv HG.out (H0.out.mv.trans hmv))
  have H1 := Lib.hid (H0.out.later hmv)
  have Hm1 := Lib.hid hms
  clear hmv hms Hst H0 HG Hr
  unfold faultV
  obtain ⟨r0, r1, r2, r3, r4, r5, r6, r7, r8, r9, r10⟩ := five_facts H1.out.na
  have hb1 : Below w1.heap.size w1 (w1.alloc (.cells #[.int .i64 0, .int .i64 0, .int .i64 0] 89)) := (Below.refl _ w1).alloc (Nat.le_refl _) _
  have Hc := Lib.hid (Hl.out G c1 _ { st with left := st.left - 1 } (.mk 16 t l k kids) _ (Hm1.out.below hb1) (HG1.out.mv (.of_below c1 hb1)) (NodeV.mk _ _ _ _ cap (Hr1.out.below hb1)) Hsn.out Hne.out)
  have H2 := Lib.hid (H1.out.below hb1)
  unfold ptr at Hc
  clear hb1
  go_wp2_with fail
  refine Hc.out.mono ?_
  rintro e w2 ⟨c2, hmv, hq⟩
  have H3 := Lib.hid (H2.out.later hmv)
  clear hmv Hc H2 H1 Hm1 r0 r1 r2 r3 r4 r5 r6 r7 r8 r9 r10 HG1 Hr1
  obtain ⟨s0, s1, s2, s3, s4, s5, s6, s7, s8, s9, s10⟩ := five_facts H3.out.vb
  obtain ⟨d0, d1, d2, d3, d4, d5, d6⟩ := three_facts H3.out.fc
  cases hx : ex (.mk 16 t l k kids) { st with left := st.left - 1 } with
  | out => exact absurd hx Hne.out
  | err x y z =>
    rw [hx] at hq
    obtain rfl := hq
    unfold badV zeroV faultV
    have Hres := Lib.hid hx
    clear hx
    go_wp2_with fail
    refine bodyPost_ret (v := badV x y z) (by simp [badV, zeroV, faultV, results, Tryz.results79, go_sem, s0, s1, s2, s3, s4, s5, d0, d1, d2, d3]) rfl ?_
    rw [Hres.out]
    exact ⟨c2, ((H3.out.setV (.int .i64 0) (.int .i64 0) (.string ⟨#[]⟩) (.slice none 0 0) (.slice none 0 0)).setF (.int .i64 x) (.int .i64 y) (.int .i64 z)).mv, rfl⟩
  | ok x st2 =>
    rw [hx] at hq
    obtain ⟨hms2, v2, rfl, cs, rfl, hagg, hck⟩ := hq
    obtain ⟨xk, xn, xs, xl, xks⟩ := x
    obtain ⟨b1, e1, b2, e2, rfl, hr1, hr2⟩ := hagg.val
    have Hm3 := Lib.hid hms2
    have Hagg := Lib.hid hagg
    have Hck := Lib.hid hck
    unfold faultV
    have Hres := Lib.hid hx
    clear hx hms2 hagg hck hr1 hr2
    go_wp2_with fail
    refine bodyPost_ret (v := .tuple #[.agg #[.int .i64 xk, .int .i64 xn, .string xs, .slice b1 xl.length e1, .slice b2 xks.length e2], faultV 0 0 0]) (by simp [faultV, results, Tryz.results79, go_sem, s0, s1, s2, s3, s4, s5, d0, d1, d2, d3]) rfl ?_
    have H4 := H3.out.setV (.int .i64 xk) (.int .i64 xn) (.string xs) (.slice b1 xl.length e1) (.slice b2 xks.length e2)
    have Hm4 := H3.out.msV Hm3.out (.int .i64 xk) (.int .i64 xn) (.string xs) (.slice b1 xl.length e1) (.slice b2 xks.length e2)
    have Ha4 := H3.out.aggV Hagg.out (.int .i64 xk) (.int .i64 xn) (.string xs) (.slice b1 xl.length e1) (.slice b2 xks.length e2)
    rw [Hres.out]
    exact ⟨c2, (H4.setF (.int .i64 0) (.int .i64 0) (.int .i64 0)).mv, H4.msF Hm4 (.int .i64 0) (.int .i64 0) (.int .i64 0), _, rfl, [_, _, _, _, _], rfl, H4.aggF Ha4 (.int .i64 0) (.int .i64 0) (.int .i64 0), Hck.out⟩

set_option maxRecDepth 100000 in
set_option maxHeartbeats 2000000 in
theorem expr_fixed (mp mb : Nat) (hv : Value) (G : Nat → Prop) (c : Ctx) (w : World) (st : St) (t : ByteArray) (l k : Int) (kids : List Nd) (a : Option Addr) (cap : Nat) (hm : MS c w mp mb hv st) (hG : GOk G c w) (hr : RowAt G w a (nodesD kids)) (hle : ¬ st.left ≤ 0) (x : Vl) (hx : fixedV t = some x) :
    Calls Tryz.prog 79 #[ptr mp, .agg #[.int .i64 9, .string t, .int .i64 l, .int .i64 k, .slice a kids.length cap]] w (EP mp mb hv EVal badV c (.ok x { st with left := st.left - 1 }) w) := by
  have H0 := Lib.hid (XB.start hm.ok #[.int .i64 9, .string t, .int .i64 l, .int .i64 k, .slice a kids.length cap] #[.int .i64 0, .int .i64 0, .string ⟨#[]⟩, .slice none 0 0, .slice none 0 0] #[.int .i64 0, .int .i64 0, .int .i64 0])
  have Hx := Lib.hid hx
  clear hx
  have Hst := Lib.hid (step_any c mp mb hv st l k _ (hm.below (alloc3 w (.cells #[.int .i64 9, .string t, .int .i64 l, .int .i64 k, .slice a kids.length cap] 51) (.cells #[.int .i64 0, .int .i64 0, .string ⟨#[]⟩, .slice none 0 0, .slice none 0 0] 31) (.cells #[.int .i64 0, .int .i64 0, .int .i64 0] 89)).2.2.2.1))
  rw [show eStep l k st = .ok () { st with left := st.left - 1 } from if_neg hle] at Hst
  have HG := Lib.hid hG
  have Hr := Lib.hid hr
  clear hm hG hr hle
  unfold ptr at Hst ⊢
  go_enter Tryz.func79, Tryz.ntmps79
  go_wp2_with fail
  refine Hst.out.mono ?_
  rintro e w1 ⟨c1, hmv, hms, v1, rfl, hv1⟩
  obtain rfl : v1 = faultV 0 0 0 := hv1
  have HG1 := Lib.hid (HG.out.mv (H0.out.mv.trans hmv))
  have Hr1 := Lib.hid (Hr.out.gmv HG.out (H0.out.mv.trans hmv))
  have H1 := Lib.hid (H0.out.later hmv)
  have Hm1 := Lib.hid hms
  clear hmv hms Hst H0 HG Hr
  unfold faultV
  obtain ⟨r0, r1, r2, r3, r4, r5, r6, r7, r8, r9, r10⟩ := five_facts H1.out.na
  have hb1 : Below w1.heap.size w1 (w1.alloc (.cells #[.int .i64 0, .int .i64 0, .int .i64 0] 89)) := (Below.refl _ w1).alloc (Nat.le_refl _) _
  have H2 := Lib.hid (H1.out.below hb1)
  have Hm2 := Lib.hid (Hm1.out.below hb1)
  clear hb1 H1 Hm1
  go_wp2_with fail
  refine (fixed_any t _).mono ?_
  rintro e w2 ⟨cs, rfl, hb2, hag, -, x0, x1, x2, rfl⟩
  rw [show (fixedV t).isSome = true by rw [Hx.out]; rfl]
  have Hag := Lib.hid (hag x Hx.out c1.F)
  have H3 := Lib.hid (H2.out.below hb2)
  have Hm3 := Lib.hid (Hm2.out.below hb2)
  clear hag hb2 H2 Hm2 r0 r1 r2 r3 r4 r5 r6 r7 r8 r9 r10
  obtain ⟨s0, s1, s2, s3, s4, s5, s6, s7, s8, s9, s10⟩ := five_facts H3.out.vb
  obtain ⟨d0, d1, d2, d3, d4, d5, d6⟩ := three_facts H3.out.fc
  go_wp2_with fail
  refine bodyPost_ret (v := .tuple #[.agg #[.int .i64 x0, .int .i64 x1, .string x2, .slice none 0 0, .slice none 0 0], faultV 0 0 0]) (by simp [faultV, results, Tryz.results79, go_sem, s0, s1, s2, s3, s4, s5, d0, d1, d2, d3]) rfl ?_
  have H4 := H3.out.setV (.int .i64 x0) (.int .i64 x1) (.string x2) (.slice none 0 0) (.slice none 0 0)
  have Hm4 := H3.out.msV Hm3.out (.int .i64 x0) (.int .i64 x1) (.string x2) (.slice none 0 0) (.slice none 0 0)
  have Ha4 := H3.out.aggV Hag.out (.int .i64 x0) (.int .i64 x1) (.string x2) (.slice none 0 0) (.slice none 0 0)
  have H5 := H4.setF (.int .i64 0) (.int .i64 0) (.int .i64 0)
  have Hm5 := H4.msF Hm4 (.int .i64 0) (.int .i64 0) (.int .i64 0)
  have Ha5 := H4.aggF Ha4 (.int .i64 0) (.int .i64 0) (.int .i64 0)
  have hbe := fun (W : World) => (Below.refl _ W).alloc (Nat.le_refl _) (.cells #[.int .i64 x0, .int .i64 x1, .string x2, .slice none 0 0, .slice none 0 0] 31)
  exact ⟨c1, (H5.below (hbe _)).mv, Hm5.below (hbe _), _, rfl, [_, _, _, _, _], rfl, Ha5.below (hbe _), fixed_check Hx.out⟩

set_option maxRecDepth 100000 in
set_option maxHeartbeats 2000000 in
theorem expr_found (mp mb : Nat) (hv : Value) (G : Nat → Prop) (c : Ctx) (w : World) (st : St) (t : ByteArray) (l k : Int) (kids : List Nd) (a : Option Addr) (cap : Nat) (hm : MS c w mp mb hv st) (hG : GOk G c w) (hr : RowAt G w a (nodesD kids)) (hle : ¬ st.left ≤ 0) (ht : t.size ≤ maxLen) (hfx : fixedV t = none) (x : Vl) (hx : lookN st.names t = some x) :
    Calls Tryz.prog 79 #[ptr mp, .agg #[.int .i64 9, .string t, .int .i64 l, .int .i64 k, .slice a kids.length cap]] w (EP mp mb hv EVal badV c (.ok x { st with left := st.left - 1 }) w) := by
  have H0 := Lib.hid (XB.start hm.ok #[.int .i64 9, .string t, .int .i64 l, .int .i64 k, .slice a kids.length cap] #[.int .i64 0, .int .i64 0, .string ⟨#[]⟩, .slice none 0 0, .slice none 0 0] #[.int .i64 0, .int .i64 0, .int .i64 0])
  have Hx := Lib.hid hx
  have Ht := Lib.hid ht
  have Hfx := Lib.hid hfx
  clear hx ht hfx
  have Hst := Lib.hid (step_any c mp mb hv st l k _ (hm.below (alloc3 w (.cells #[.int .i64 9, .string t, .int .i64 l, .int .i64 k, .slice a kids.length cap] 51) (.cells #[.int .i64 0, .int .i64 0, .string ⟨#[]⟩, .slice none 0 0, .slice none 0 0] 31) (.cells #[.int .i64 0, .int .i64 0, .int .i64 0] 89)).2.2.2.1))
  rw [show eStep l k st = .ok () { st with left := st.left - 1 } from if_neg hle] at Hst
  have HG := Lib.hid hG
  have Hr := Lib.hid hr
  clear hm hG hr hle
  unfold ptr at Hst ⊢
  go_enter Tryz.func79, Tryz.ntmps79
  go_wp2_with fail
  refine Hst.out.mono ?_
  rintro e w1 ⟨c1, hmv, hms, v1, rfl, hv1⟩
  obtain rfl : v1 = faultV 0 0 0 := hv1
  have HG1 := Lib.hid (HG.out.mv (H0.out.mv.trans hmv))
  have Hr1 := Lib.hid (Hr.out.gmv HG.out (H0.out.mv.trans hmv))
  have H1 := Lib.hid (H0.out.later hmv)
  have Hm1 := Lib.hid hms
  clear hmv hms Hst H0 HG Hr
  unfold faultV
  obtain ⟨r0, r1, r2, r3, r4, r5, r6, r7, r8, r9, r10⟩ := five_facts H1.out.na
  have hb1 : Below w1.heap.size w1 (w1.alloc (.cells #[.int .i64 0, .int .i64 0, .int .i64 0] 89)) := (Below.refl _ w1).alloc (Nat.le_refl _) _
  have H2 := Lib.hid (H1.out.below hb1)
  have Hm2 := Lib.hid (Hm1.out.below hb1)
  clear hb1 H1 Hm1
  go_wp2_with fail
  refine (fixed_any t _).mono ?_
  rintro e w2 ⟨cs, rfl, hb2, -, -, x0, x1, x2, rfl⟩
  rw [show (fixedV t).isSome = false by rw [Hfx.out]; rfl]
  have H3 := Lib.hid (H2.out.below hb2)
  have Hm3 := Lib.hid (Hm2.out.below hb2)
  clear hb2 H2 Hm2 r0 r1 r2 r3 r4 r5 r6 r7 r8 r9 r10
  go_upto_region 9 with fail
  have hb3 : Below w2.heap.size w2 (w2.alloc (.cells #[.int .i64 x0, .int .i64 x1, .string x2, .slice none 0 0, .slice none 0 0] 31)) := (Below.refl _ w2).alloc (Nat.le_refl _) _
  have H4 := Lib.hid (H3.out.below hb3)
  have Hm4 := Lib.hid (Hm3.out.below hb3)
  generalize World.alloc _ _ = W at H4 Hm4 ⊢
  clear hb3 H3 Hm3
  rcases Hm4.out.look_all t Ht.out with ⟨h1, -⟩ | ⟨x', cs', h1, hagg, hck, hlk⟩
  · rw [Hx.out] at h1; cases h1
  obtain rfl : x = x' := by rw [Hx.out] at h1; cases h1; rfl
  obtain ⟨xk, xn, xs, xl, xks⟩ := x
  obtain ⟨b1, e1, b2, e2, rfl, -, -⟩ := hagg.val
  have Hlk := Lib.hid hlk
  have Hagg := Lib.hid hagg
  have Hck := Lib.hid hck
  clear h1 hlk hagg hck
  refine wp_region_turns (.s 0 (.s 1 (.s 2 (.s 3 (.s 4 (.s 5 (.s 6 (.s 7 (.s 8 (.s 9 (.h 10 (.h 11 (.s 12 .nil))))))))))))) 99 (fun W' => W'.heap[mp]? = some (.cells #[.map (some mb), hv, .int .i64 (st.left - 1)] 87 (0, 0)) ∧ W'.heap[w.heap.size]? = some (.cells #[.int .i64 9, .string t, .int .i64 l, .int .i64 k, .slice a kids.length cap] 51 (0, 0)) ∧ W'.heap[mb]? = W.heap[mb]?) (by kernel_rfl) (by kernel_rfl) (fun c a d v w h => by cases d <;> exact h) ⟨Hm4.out.head, H4.out.na, rfl⟩ ?_
  have H5 := Lib.hid (H4.out.below ((Below.refl _ W).drew))
  have Hm5 := Lib.hid (Hm4.out.below ((Below.refl _ W).drew))
  have hmp5 := Hm5.out.head
  have hmb5 : W.drew.heap[mb]? = W.heap[mb]? := rfl
  have Hag5 := Lib.hid (Hagg.out.below ((Below.refl _ W).drew))
  generalize W.drew = Wd at H5 Hm5 hmp5 hmb5 Hag5 ⊢
  clear H4 Hm4 Hagg
  refine turn_steady (.pointer (some ⟨mp, 0, none⟩)) rfl rfl (fun W' hS => ?_) ?_
  · clear hS
    go_simp
  try simp only [List.getElem_toArray, List.getElem_cons_succ, List.getElem_cons_zero, Act.put, List.setIfInBounds_toArray, List.set_cons_zero, List.set_cons_succ]
  refine turn_steady (.pointer (some ⟨mp, 0, none⟩)) rfl rfl (fun W' hS => ?_) ?_
  · clear hS
    go_simp
  try simp only [List.getElem_toArray, List.getElem_cons_succ, List.getElem_cons_zero, Act.put, List.setIfInBounds_toArray, List.set_cons_zero, List.set_cons_succ]
  refine turn_steady (.pointer (some ⟨mp, 0, none⟩)) rfl rfl (fun W' hS => ?_) ?_
  · clear hS
    go_simp
  try simp only [List.getElem_toArray, List.getElem_cons_succ, List.getElem_cons_zero, Act.put, List.setIfInBounds_toArray, List.set_cons_zero, List.set_cons_succ]
  refine turn_steady (.map (some mb)) rfl rfl (fun W' hS => ?_) ?_
  · obtain ⟨s0, s1, s2, s3, s4, s5, s6⟩ := three_facts hS.1
    clear hS
    go_simp
  try simp only [List.getElem_toArray, List.getElem_cons_succ, List.getElem_cons_zero, Act.put, List.setIfInBounds_toArray, List.set_cons_zero, List.set_cons_succ]
  refine turn_steady (.pointer (some ⟨w.heap.size, 1, none⟩)) rfl rfl (fun W' hS => ?_) ?_
  · clear hS
    go_simp
  try simp only [List.getElem_toArray, List.getElem_cons_succ, List.getElem_cons_zero, Act.put, List.setIfInBounds_toArray, List.set_cons_zero, List.set_cons_succ]
  refine turn_steady (.string t) rfl rfl (fun W' hS => ?_) ?_
  · obtain ⟨s0, s1, s2, s3, s4, s5, s6, s7, s8, s9, s10⟩ := five_facts hS.2.1
    clear hS
    go_simp
  try simp only [List.getElem_toArray, List.getElem_cons_succ, List.getElem_cons_zero, Act.put, List.setIfInBounds_toArray, List.set_cons_zero, List.set_cons_succ]
  refine turn_steady (.tuple #[.agg #[.int .i64 xk, .int .i64 xn, .string xs, .slice b1 xl.length e1, .slice b2 xks.length e2], .bool true]) rfl rfl (fun W' hS => ?_) ?_
  · have hl := Hlk.out W' hS.2.2
    clear hS
    go_simp
  try simp only [List.getElem_toArray, List.getElem_cons_succ, List.getElem_cons_zero, Act.put, List.setIfInBounds_toArray, List.set_cons_zero, List.set_cons_succ]
  refine turn_steady (.tuple #[.agg #[.int .i64 xk, .int .i64 xn, .string xs, .slice b1 xl.length e1, .slice b2 xks.length e2], .bool true]) rfl rfl (fun W' hS => ?_) ?_
  · clear hS
    go_simp
  try simp only [List.getElem_toArray, List.getElem_cons_succ, List.getElem_cons_zero, Act.put, List.setIfInBounds_toArray, List.set_cons_zero, List.set_cons_succ]
  refine turn_steady (.agg #[.int .i64 xk, .int .i64 xn, .string xs, .slice b1 xl.length e1, .slice b2 xks.length e2]) rfl rfl (fun W' hS => ?_) ?_
  · clear hS
    go_simp
  try simp only [List.getElem_toArray, List.getElem_cons_succ, List.getElem_cons_zero, Act.put, List.setIfInBounds_toArray, List.set_cons_zero, List.set_cons_succ]
  refine turn_steady (.bool true) rfl rfl (fun W' hS => ?_) ?_
  · clear hS
    go_simp
  try simp only [List.getElem_toArray, List.getElem_cons_succ, List.getElem_cons_zero, Act.put, List.setIfInBounds_toArray, List.set_cons_zero, List.set_cons_succ]
  refine turn_heavy rfl (fun Kx hKx => ?_)
  go_wp2_with fail
  have hbA : Below Wd.heap.size Wd (Wd.alloc (.cells #[.int .i64 0, .int .i64 0, .string ⟨#[]⟩, .slice none 0 0, .slice none 0 0] 31)) := (Below.refl _ Wd).alloc (Nat.le_refl _) _
  refine hKx _ _ (fun _ => ⟨(hbA.block _ (Hm5.out.ok.ml _ Hm5.out.hm)).trans hmp5, (hbA.block _ (by have := H5.out.size; omega)).trans H5.out.na, (hbA.block _ (Hm5.out.ok.ml _ Hm5.out.hb)).trans hmb5⟩) ?_
  clear hbA hKx
  try simp only [List.getElem_toArray, List.getElem_cons_succ, List.getElem_cons_zero, Act.put, List.setIfInBounds_toArray, List.set_cons_zero, List.set_cons_succ]
  refine turn_heavy rfl (fun Ky hKy => ?_)
  go_wp2_with fail
  have hbA : ∀ o, Below Wd.heap.size Wd (Wd.alloc o) := fun o => (Below.refl _ Wd).alloc (Nat.le_refl _) _
  refine hKy _ _ (fun _ => ⟨((hbA _).block _ (Hm5.out.ok.ml _ Hm5.out.hm)).trans hmp5, ((hbA _).block _ (by have := H5.out.size; omega)).trans H5.out.na, ((hbA _).block _ (Hm5.out.ok.ml _ Hm5.out.hb)).trans hmb5⟩) ?_
  clear hKy hbA
  try simp only [List.getElem_toArray, List.getElem_cons_succ, List.getElem_cons_zero, Act.put, List.setIfInBounds_toArray, List.set_cons_zero, List.set_cons_succ]
  refine turn_steady (.bool true) rfl rfl (fun W' hS => ?_) ?_
  · clear hS
    go_simp
  refine turn_end ?_
  try simp only [List.getElem_toArray, List.getElem_cons_succ, List.getElem_cons_zero, Act.put, List.setIfInBounds_toArray, List.set_cons_zero, List.set_cons_succ]
  obtain ⟨s0, s1, s2, s3, s4, s5, s6, s7, s8, s9, s10⟩ := five_facts H5.out.vb
  obtain ⟨d0, d1, d2, d3, d4, d5, d6⟩ := three_facts H5.out.fc
  go_wp2_with fail
  refine bodyPost_ret (v := .tuple #[.agg #[.int .i64 xk, .int .i64 xn, .string xs, .slice b1 xl.length e1, .slice b2 xks.length e2], faultV 0 0 0]) (by simp [faultV, results, Tryz.results79, go_sem, s0, s1, s2, s3, s4, s5, d0, d1, d2, d3]) rfl ?_
  have H6 := H5.out.setV (.int .i64 xk) (.int .i64 xn) (.string xs) (.slice b1 xl.length e1) (.slice b2 xks.length e2)
  have Hm6 := H5.out.msV Hm5.out (.int .i64 xk) (.int .i64 xn) (.string xs) (.slice b1 xl.length e1) (.slice b2 xks.length e2)
  have Ha6 := H5.out.aggV Hag5.out (.int .i64 xk) (.int .i64 xn) (.string xs) (.slice b1 xl.length e1) (.slice b2 xks.length e2)
  have H7 := H6.setF (.int .i64 0) (.int .i64 0) (.int .i64 0)
  have Hm7 := H6.msF Hm6 (.int .i64 0) (.int .i64 0) (.int .i64 0)
  have Ha7 := H6.aggF Ha6 (.int .i64 0) (.int .i64 0) (.int .i64 0)
  have hbe := fun (W : World) => (Below.refl _ W).alloc (Nat.le_refl _) (.cells #[.int .i64 xk, .int .i64 xn, .string xs, .slice b1 xl.length e1, .slice b2 xks.length e2] 31)
  exact ⟨c1, (H7.below (hbe _)).mv, Hm7.below (hbe _), _, rfl, [_, _, _, _, _], rfl, Ha7.below (hbe _), Hck.out⟩

set_option maxRecDepth 100000 in
set_option maxHeartbeats 2000000 in
theorem expr_unknown (mp mb : Nat) (hv : Value) (G : Nat → Prop) (c : Ctx) (w : World) (st : St) (t : ByteArray) (l k : Int) (kids : List Nd) (a : Option Addr) (cap : Nat) (hm : MS c w mp mb hv st) (hG : GOk G c w) (hr : RowAt G w a (nodesD kids)) (hle : ¬ st.left ≤ 0) (ht : t.size ≤ maxLen) (hfx : fixedV t = none) (hx : lookN st.names t = none) :
    Calls Tryz.prog 79 #[ptr mp, .agg #[.int .i64 9, .string t, .int .i64 l, .int .i64 k, .slice a kids.length cap]] w (EP mp mb hv EVal badV c (.err 7 l k) w) := by
  have H0 := Lib.hid (XB.start hm.ok #[.int .i64 9, .string t, .int .i64 l, .int .i64 k, .slice a kids.length cap] #[.int .i64 0, .int .i64 0, .string ⟨#[]⟩, .slice none 0 0, .slice none 0 0] #[.int .i64 0, .int .i64 0, .int .i64 0])
  have Hx := Lib.hid hx
  have Ht := Lib.hid ht
  have Hfx := Lib.hid hfx
  clear hx ht hfx
  have Hst := Lib.hid (step_any c mp mb hv st l k _ (hm.below (alloc3 w (.cells #[.int .i64 9, .string t, .int .i64 l, .int .i64 k, .slice a kids.length cap] 51) (.cells #[.int .i64 0, .int .i64 0, .string ⟨#[]⟩, .slice none 0 0, .slice none 0 0] 31) (.cells #[.int .i64 0, .int .i64 0, .int .i64 0] 89)).2.2.2.1))
  rw [show eStep l k st = .ok () { st with left := st.left - 1 } from if_neg hle] at Hst
  have HG := Lib.hid hG
  have Hr := Lib.hid hr
  clear hm hG hr hle
  unfold ptr at Hst ⊢
  go_enter Tryz.func79, Tryz.ntmps79
  go_wp2_with fail
  refine Hst.out.mono ?_
  rintro e w1 ⟨c1, hmv, hms, v1, rfl, hv1⟩
  obtain rfl : v1 = faultV 0 0 0 := hv1
  have HG1 := Lib.hid (HG.out.mv (H0.out.mv.trans hmv))
  have Hr1 := Lib.hid (Hr.out.gmv HG.out (H0.out.mv.trans hmv))
  have H1 := Lib.hid (H0.out.later hmv)
  have Hm1 := Lib.hid hms
  clear hmv hms Hst H0 HG Hr
  unfold faultV
  obtain ⟨r0, r1, r2, r3, r4, r5, r6, r7, r8, r9, r10⟩ := five_facts H1.out.na
  have hb1 : Below w1.heap.size w1 (w1.alloc (.cells #[.int .i64 0, .int .i64 0, .int .i64 0] 89)) := (Below.refl _ w1).alloc (Nat.le_refl _) _
  have H2 := Lib.hid (H1.out.below hb1)
  have Hm2 := Lib.hid (Hm1.out.below hb1)
  clear hb1 H1 Hm1
  go_wp2_with fail
  refine (fixed_any t _).mono ?_
  rintro e w2 ⟨cs, rfl, hb2, -, -, x0, x1, x2, rfl⟩
  rw [show (fixedV t).isSome = false by rw [Hfx.out]; rfl]
  have H3 := Lib.hid (H2.out.below hb2)
  have Hm3 := Lib.hid (Hm2.out.below hb2)
  clear hb2 H2 Hm2 r0 r1 r2 r3 r4 r5 r6 r7 r8 r9 r10
  go_upto_region 9 with fail
  have hb3 : Below w2.heap.size w2 (w2.alloc (.cells #[.int .i64 x0, .int .i64 x1, .string x2, .slice none 0 0, .slice none 0 0] 31)) := (Below.refl _ w2).alloc (Nat.le_refl _) _
  have H4 := Lib.hid (H3.out.below hb3)
  have Hm4 := Lib.hid (Hm3.out.below hb3)
  generalize World.alloc _ _ = W at H4 Hm4 ⊢
  clear hb3 H3 Hm3
  rcases Hm4.out.look_all t Ht.out with ⟨-, hlk⟩ | ⟨x', cs', h1, -, -, -⟩
  case inr => rw [Hx.out] at h1; cases h1
  have Hlk := Lib.hid hlk
  clear hlk
  unfold zeroV at Hlk
  refine wp_region_turns (.s 0 (.s 1 (.s 2 (.s 3 (.s 4 (.s 5 (.s 6 (.s 7 (.s 8 (.s 9 (.h 10 (.h 11 (.s 12 .nil))))))))))))) 99 (fun W' => W'.heap[mp]? = some (.cells #[.map (some mb), hv, .int .i64 (st.left - 1)] 87 (0, 0)) ∧ W'.heap[w.heap.size]? = some (.cells #[.int .i64 9, .string t, .int .i64 l, .int .i64 k, .slice a kids.length cap] 51 (0, 0)) ∧ W'.heap[mb]? = W.heap[mb]?) (by kernel_rfl) (by kernel_rfl) (fun c a d v w h => by cases d <;> exact h) ⟨Hm4.out.head, H4.out.na, rfl⟩ ?_
  have H5 := Lib.hid (H4.out.below ((Below.refl _ W).drew))
  have Hm5 := Lib.hid (Hm4.out.below ((Below.refl _ W).drew))
  have hmp5 := Hm5.out.head
  have hmb5 : W.drew.heap[mb]? = W.heap[mb]? := rfl
  generalize W.drew = Wd at H5 Hm5 hmp5 hmb5 ⊢
  clear H4 Hm4
  refine turn_steady (.pointer (some ⟨mp, 0, none⟩)) rfl rfl (fun W' hS => ?_) ?_
  · clear hS
    go_simp
  try simp only [List.getElem_toArray, List.getElem_cons_succ, List.getElem_cons_zero, Act.put, List.setIfInBounds_toArray, List.set_cons_zero, List.set_cons_succ]
  refine turn_steady (.pointer (some ⟨mp, 0, none⟩)) rfl rfl (fun W' hS => ?_) ?_
  · clear hS
    go_simp
  try simp only [List.getElem_toArray, List.getElem_cons_succ, List.getElem_cons_zero, Act.put, List.setIfInBounds_toArray, List.set_cons_zero, List.set_cons_succ]
  refine turn_steady (.pointer (some ⟨mp, 0, none⟩)) rfl rfl (fun W' hS => ?_) ?_
  · clear hS
    go_simp
  try simp only [List.getElem_toArray, List.getElem_cons_succ, List.getElem_cons_zero, Act.put, List.setIfInBounds_toArray, List.set_cons_zero, List.set_cons_succ]
  refine turn_steady (.map (some mb)) rfl rfl (fun W' hS => ?_) ?_
  · obtain ⟨s0, s1, s2, s3, s4, s5, s6⟩ := three_facts hS.1
    clear hS
    go_simp
  try simp only [List.getElem_toArray, List.getElem_cons_succ, List.getElem_cons_zero, Act.put, List.setIfInBounds_toArray, List.set_cons_zero, List.set_cons_succ]
  refine turn_steady (.pointer (some ⟨w.heap.size, 1, none⟩)) rfl rfl (fun W' hS => ?_) ?_
  · clear hS
    go_simp
  try simp only [List.getElem_toArray, List.getElem_cons_succ, List.getElem_cons_zero, Act.put, List.setIfInBounds_toArray, List.set_cons_zero, List.set_cons_succ]
  refine turn_steady (.string t) rfl rfl (fun W' hS => ?_) ?_
  · obtain ⟨s0, s1, s2, s3, s4, s5, s6, s7, s8, s9, s10⟩ := five_facts hS.2.1
    clear hS
    go_simp
  try simp only [List.getElem_toArray, List.getElem_cons_succ, List.getElem_cons_zero, Act.put, List.setIfInBounds_toArray, List.set_cons_zero, List.set_cons_succ]
  refine turn_steady (.tuple #[.agg #[.int .i64 0, .int .i64 0, .string ⟨#[]⟩, .slice none 0 0, .slice none 0 0], .bool false]) rfl rfl (fun W' hS => ?_) ?_
  · have hl := Hlk.out W' hS.2.2
    clear hS
    go_simp
  try simp only [List.getElem_toArray, List.getElem_cons_succ, List.getElem_cons_zero, Act.put, List.setIfInBounds_toArray, List.set_cons_zero, List.set_cons_succ]
  refine turn_steady (.tuple #[.agg #[.int .i64 0, .int .i64 0, .string ⟨#[]⟩, .slice none 0 0, .slice none 0 0], .bool false]) rfl rfl (fun W' hS => ?_) ?_
  · clear hS
    go_simp
  try simp only [List.getElem_toArray, List.getElem_cons_succ, List.getElem_cons_zero, Act.put, List.setIfInBounds_toArray, List.set_cons_zero, List.set_cons_succ]
  refine turn_steady (.agg #[.int .i64 0, .int .i64 0, .string ⟨#[]⟩, .slice none 0 0, .slice none 0 0]) rfl rfl (fun W' hS => ?_) ?_
  · clear hS
    go_simp
  try simp only [List.getElem_toArray, List.getElem_cons_succ, List.getElem_cons_zero, Act.put, List.setIfInBounds_toArray, List.set_cons_zero, List.set_cons_succ]
  refine turn_steady (.bool false) rfl rfl (fun W' hS => ?_) ?_
  · clear hS
    go_simp
  try simp only [List.getElem_toArray, List.getElem_cons_succ, List.getElem_cons_zero, Act.put, List.setIfInBounds_toArray, List.set_cons_zero, List.set_cons_succ]
  refine turn_heavy rfl (fun Kx hKx => ?_)
  go_wp2_with fail
  have hbA : Below Wd.heap.size Wd (Wd.alloc (.cells #[.int .i64 0, .int .i64 0, .string ⟨#[]⟩, .slice none 0 0, .slice none 0 0] 31)) := (Below.refl _ Wd).alloc (Nat.le_refl _) _
  refine hKx _ _ (fun _ => ⟨(hbA.block _ (Hm5.out.ok.ml _ Hm5.out.hm)).trans hmp5, (hbA.block _ (by have := H5.out.size; omega)).trans H5.out.na, (hbA.block _ (Hm5.out.ok.ml _ Hm5.out.hb)).trans hmb5⟩) ?_
  clear hbA hKx
  try simp only [List.getElem_toArray, List.getElem_cons_succ, List.getElem_cons_zero, Act.put, List.setIfInBounds_toArray, List.set_cons_zero, List.set_cons_succ]
  refine turn_heavy rfl (fun Ky hKy => ?_)
  go_wp2_with fail
  have hbA : ∀ o, Below Wd.heap.size Wd (Wd.alloc o) := fun o => (Below.refl _ Wd).alloc (Nat.le_refl _) _
  refine hKy _ _ (fun _ => ⟨((hbA _).block _ (Hm5.out.ok.ml _ Hm5.out.hm)).trans hmp5, ((hbA _).block _ (by have := H5.out.size; omega)).trans H5.out.na, ((hbA _).block _ (Hm5.out.ok.ml _ Hm5.out.hb)).trans hmb5⟩) ?_
  clear hKy hbA
  try simp only [List.getElem_toArray, List.getElem_cons_succ, List.getElem_cons_zero, Act.put, List.setIfInBounds_toArray, List.set_cons_zero, List.set_cons_succ]
  refine turn_steady (.bool false) rfl rfl (fun W' hS => ?_) ?_
  · clear hS
    go_simp
  refine turn_end ?_
  try simp only [List.getElem_toArray, List.getElem_cons_succ, List.getElem_cons_zero, Act.put, List.setIfInBounds_toArray, List.set_cons_zero, List.set_cons_succ]
  have H6 := Lib.hid (H5.out.below ((Below.refl _ Wd).alloc (Nat.le_refl _) (.cells #[.int .i64 0, .int .i64 0, .string ⟨#[]⟩, .slice none 0 0, .slice none 0 0] 31)))
  generalize World.alloc _ _ = Wb at H6 ⊢
  clear H5 Hm5 hmp5 hmb5
  go_upto_region 11 with fail
  refine wp_region_turns (.s 0 (.s 1 (.s 2 (.s 3 (.h 4 (.h 5 .nil)))))) 99 (fun W' => W'.heap[w.heap.size]? = some (.cells #[.int .i64 9, .string t, .int .i64 l, .int .i64 k, .slice a kids.length cap] 51 (0, 0))) (by kernel_rfl) (by kernel_rfl) (fun c a d v w h => by cases d <;> exact h) H6.out.na ?_
  have H7 := Lib.hid (H6.out.below ((Below.refl _ Wb).drew))
  generalize Wb.drew = Wd2 at H7 ⊢
  clear H6
  refine turn_steady (.agg #[.int .i64 0, .int .i64 0, .string ⟨#[]⟩, .slice none 0 0, .slice none 0 0]) rfl rfl (fun W' hS => ?_) ?_
  · go_simp
  try simp only [List.getElem_toArray, List.getElem_cons_succ, List.getElem_cons_zero, Act.put, List.setIfInBounds_toArray, List.set_cons_zero, List.set_cons_succ]
  refine turn_steady (.pointer (some ⟨w.heap.size, 2, none⟩)) rfl rfl (fun W' hS => ?_) ?_
  · go_simp
  try simp only [List.getElem_toArray, List.getElem_cons_succ, List.getElem_cons_zero, Act.put, List.setIfInBounds_toArray, List.set_cons_zero, List.set_cons_succ]
  refine turn_steady (.agg #[.int .i64 l, .int .i64 k]) rfl rfl (fun W' hS => ?_) ?_
  · obtain ⟨s0, s1, s2, s3, s4, s5, s6, s7, s8, s9, s10⟩ := five_facts hS
    clear hS
    go_simp
  try simp only [List.getElem_toArray, List.getElem_cons_succ, List.getElem_cons_zero, Act.put, List.setIfInBounds_toArray, List.set_cons_zero, List.set_cons_succ]
  refine turn_steady (.agg #[.int .i64 7, .int .i64 l, .int .i64 k]) rfl rfl (fun W' hS => ?_) ?_
  · go_simp
  try simp only [List.getElem_toArray, List.getElem_cons_succ, List.getElem_cons_zero, Act.put, List.setIfInBounds_toArray, List.set_cons_zero, List.set_cons_succ]
  obtain ⟨s0, s1, s2, s3, s4, s5, s6, s7, s8, s9, s10⟩ := five_facts H7.out.vb
  refine turn_heavy rfl (fun Kx hKx => ?_)
  go_wp2_with fail
  have H8 := Lib.hid (H7.out.setV (.int .i64 0) (.int .i64 0) (.string ⟨#[]⟩) (.slice none 0 0) (.slice none 0 0))
  unfold set5 at H8
  refine hKx _ _ (fun _ => H8.out.na) ?_
  generalize World.setCell _ _ _ = W8 at H8 ⊢
  try simp only [List.getElem_toArray, List.getElem_cons_succ, List.getElem_cons_zero, Act.put, List.setIfInBounds_toArray, List.set_cons_zero, List.set_cons_succ]
  clear s0 s1 s2 s3 s4 s5 s6 s7 s8 s9 s10 hKx H7
  obtain ⟨d0, d1, d2, d3, d4, d5, d6⟩ := three_facts H8.out.fc
  refine turn_heavy rfl (fun Ky hKy => ?_)
  go_wp2_with fail
  have H9 := Lib.hid (H8.out.setF (.int .i64 7) (.int .i64 l) (.int .i64 k))
  unfold set3 at H9
  refine hKy _ _ (fun _ => H9.out.na) ?_
  generalize World.setCell _ _ _ = W9 at H9 ⊢
  refine turn_end ?_
  try simp only [List.getElem_toArray, List.getElem_cons_succ, List.getElem_cons_zero, Act.put, List.setIfInBounds_toArray, List.set_cons_zero, List.set_cons_succ]
  clear d0 d1 d2 d3 d4 d5 d6 hKy H8
  obtain ⟨s0, s1, s2, s3, s4, s5, s6, s7, s8, s9, s10⟩ := five_facts H9.out.vb
  obtain ⟨d0, d1, d2, d3, d4, d5, d6⟩ := three_facts H9.out.fc
  go_wp2_with fail
  refine bodyPost_ret (v := badV 7 l k) (by simp [badV, zeroV, faultV, results, Tryz.results79, go_sem, s0, s1, s2, s3, s4, s5, d0, d1, d2, d3]) rfl ?_
  exact ⟨_, H9.out.mv, rfl⟩
end Go.Proofs.YtmmflgbhgjefmaaGreatDoor
namespace Go.Proofs.YtmmflgbhgjefmaaGreatDoor
open Go Go.RowKit

/-- What list does with a node. -/
def eListN (ex : Nd → EM Vl) (n : Nd) : EM Vl := EM.bind (eItems ex n.kids []) fun l => eMade (.mk 4 0 ⟨#[]⟩ l []) n.ln n.cl
theorem eExpr_stop {ex : Nd → EM Vl} {st : St} {kk l k : Int} {t : ByteArray} {kids : List Nd} (hle : st.left ≤ 0) : eExpr ex (.mk kk t l k kids) st = .err 12 l k :=
  ebind_err (if_pos hle)
theorem eExpr_go {ex : Nd → EM Vl} {st : St} {kk l k : Int} {t : ByteArray} {kids : List Nd} (hle : ¬ st.left ≤ 0) : eExpr ex (.mk kk t l k kids) st =
    (if kk = 9 then
      match fixedV t with
      | some v => .ok v { st with left := st.left - 1 }
      | none => match lookN st.names t with
        | some v => .ok v { st with left := st.left - 1 }
        | none => .err 7 l k
    else if kk = 10 then match smallNum t with
      | some x => .ok (.mk 2 x ⟨#[]⟩ [] []) { st with left := st.left - 1 }
      | none => .out
    else if kk = 12 then eListN ex (.mk kk t l k kids) { st with left := st.left - 1 }
    else if kk = 16 then eOp ex (.mk kk t l k kids) { st with left := st.left - 1 }
    else .out) :=
  ebind_ok (if_neg hle)
theorem expr_does {mp mb : Nat} {hv : Value} {ex : Nd → EM Vl} (hl : XDoes 108 mp mb hv (eListN ex)) (ho : XDoes 111 mp mb hv (eOp ex)) :
    XDoes 79 mp mb hv (eExpr ex) := by
  intro G c w st n v hm hG hn hsn hne
  obtain ⟨kk, t, l, k, kids⟩ := n
  obtain ⟨a, cap, rfl, hr⟩ := hn.open
  by_cases hle : st.left ≤ 0
  · rw [eExpr_stop hle]
    exact expr_stop kk mp mb hv G c w st t l k kids a cap hm hG hle
  rw [eExpr_go hle] at hne ⊢
  by_cases h9 : kk = 9
  · subst h9
    rw [if_pos rfl]
    cases hf : fixedV t with
    | some x => exact expr_fixed mp mb hv G c w st t l k kids a cap hm hG hr hle x hf
    | none =>
      rw [smallN] at hsn
      cases hx : lookN st.names t with
      | some x => exact expr_found mp mb hv G c w st t l k kids a cap hm hG hr hle hsn.1 hf x hx
      | none => exact expr_unknown mp mb hv G c w st t l k kids a cap hm hG hr hle hsn.1 hf hx
  rw [if_neg h9] at hne ⊢
  by_cases h10 : kk = 10
  · subst h10
    rw [if_pos rfl] at hne ⊢
    cases hx : smallNum t with
    | none => rw [hx] at hne; exact absurd rfl hne
    | some x => exact expr_num mp mb hv G c w st t l k kids a cap hm hG hr hle x hx
  rw [if_neg h10] at hne ⊢
  by_cases h12 : kk = 12
  · subst h12
    rw [if_pos rfl] at hne ⊢
    exact expr_list mp mb hv G c w st t l k kids a cap hm hG hr hle hsn (eListN ex) hl hne
  rw [if_neg h12] at hne ⊢
  by_cases h16 : kk = 16
  · subst h16
    rw [if_pos rfl] at hne ⊢
    exact expr_op mp mb hv G c w st t l k kids a cap hm hG hr hle hsn (eOp ex) ho hne
  · rw [if_neg h16] at hne
    exact absurd rfl hne
end Go.Proofs.YtmmflgbhgjefmaaGreatDoor
namespace Go.Proofs.YtmmflgbhgjefmaaGreatDoor
open Go Go.RowKit

theorem infoVal : (Tryz.prog.info? 31).map (fun i => (i.zero, i.size, i.bytes)) = some (some (.agg #[.int .i64 0, .int .i64 0, .string ByteArray.empty, .slice none 0 0, .slice none 0 0]), 5, 80) := by kernel_rfl
theorem smallVs_all {l : List Vl} (h : ∀ x ∈ l, smallV x) : smallVs l := by
  induction l with
  | nil => rw [smallVs]; trivial
  | cons v t ih => rw [smallVs]; exact ⟨h v (List.mem_cons_self ..), ih fun x hx => h x (List.mem_cons_of_mem _ hx)⟩
theorem valsD_all {p : List Dat → Prop} (hp : ∀ v, p (valD v)) (l : List Vl) : ∀ ds ∈ valsD l, p ds := by
  rw [valsD_map]
  intro ds h
  obtain ⟨v, -, rfl⟩ := List.mem_map.1 h
  exact hp v

/-- Data that lay before lies on. -/
theorem MS.join {c c' : Ctx} {w w' : World} {mp mb : Nat} {hv hv' : Value} {st st' : St} (h : MS c w mp mb hv st) (k : Mv c w c' w') (h' : MS c' w' mp mb hv' st') : MS (c'.with c.F) w' mp mb hv' st' :=
  h'.with fun b hb => ⟨Nat.lt_of_lt_of_le (h.ok.fl b hb) k.size, fun hm => by
    rcases k.m b hm with h1 | h1
    · exact h.ok.apart b hb h1
    · have := h.ok.fl b hb; omega⟩
theorem Mv.join {c c' : Ctx} {w w' : World} (k : Mv c w c' w') : Mv c w (c'.with c.F) w' :=
  ⟨k.os, k.tape, k.output, k.size, k.block, k.m, fun b hb => by rcases hb with hb | hb; exact k.f b hb; exact .inl hb⟩
theorem AggAt.join {c c' : Ctx} {w w' : World} (ok : c.Ok w) (k : Mv c w c' w') {ds : List Dat} {cs : List Value} (h : AggAt c.F w ds cs) : AggAt (c'.with c.F).F w' ds cs :=
  h.mono fun b hb hl => ⟨.inr hb, Nat.lt_of_lt_of_le hl k.size, k.block b hl (ok.apart b hb)⟩

/-- A box that is not the call's first three is written. -/
theorem XB.setO {c0 c : Ctx} {w W : World} {n v f : Array Value} (h : XB c0 w c W n v f) {b : Nat} (hb : w.heap.size + 3 ≤ b) (v0 v1 v2 : Value) : XB c0 w c (set3 W b v0 v1 v2) n v f := by
  unfold set3
  exact ⟨((h.mv.set (.inl (by omega)) 0 _).set (.inl (by omega)) 1 _).set (.inl (by omega)) 2 _, by simpa using h.size, by rw [set_other (by omega), set_other (by omega), set_other (by omega)]; exact h.na, by rw [set_other (by omega), set_other (by omega), set_other (by omega)]; exact h.vb, by rw [set_other (by omega), set_other (by omega), set_other (by omega)]; exact h.fc, h.out⟩
theorem MS.setO {c : Ctx} {W : World} {mp mb : Nat} {hv : Value} {st : St} (h : MS c W mp mb hv st) {b : Nat} (hb : ¬ c.M b ∧ ¬ c.F b) (v0 v1 v2 : Value) : MS c (set3 W b v0 v1 v2) mp mb hv st :=
  h.other (by unfold set3; simp) (fun k _ hMF => by
    have hne : k ≠ b := fun e => by subst e; rcases hMF with h1 | h1; exact hb.1 h1; exact hb.2 h1
    unfold set3
    rw [set_other hne, set_other hne, set_other hne])
theorem AggAt.setO {F : Nat → Prop} {W : World} {ds : List Dat} {cs : List Value} (h : AggAt F W ds cs) {b : Nat} (hb : ¬ F b) (v0 v1 v2 : Value) : AggAt F (set3 W b v0 v1 v2) ds cs :=
  h.mono fun k hF hl => ⟨hF, by unfold set3; simpa using hl, by
    have hne : k ≠ b := fun e => by subst e; exact hb hF
    unfold set3
    rw [set_other hne, set_other hne, set_other hne]⟩

/-- The list so far: its box at the fourth of the call's own blocks, its items in a row of its own. -/
structure LI (mp mb : Nat) (hv : Value) (G : Nat → Prop) (c0 : Ctx) (w : World) (node : Array Value) (a : Option Addr) (kids : List Nd) (c : Ctx) (W : World) (st : St) (L : Value) (acc : List Vl) : Prop where
  xb : XB c0 w c W node #[.int .i64 0, .int .i64 0, .string ⟨#[]⟩, .slice none 0 0, .slice none 0 0] #[.int .i64 0, .int .i64 0, .int .i64 0]
  sb : W.heap[w.heap.size + 1 + 1 + 1]? = some (.cells #[.int .i64 4, .int .i64 0, .string ⟨#[]⟩, L, .slice none 0 0] 31 (0, 0))
  so : ¬ c.M (w.heap.size + 1 + 1 + 1) ∧ ¬ c.F (w.heap.size + 1 + 1 + 1)
  own : OwnD c.F W (w.heap.size + 1 + 1 + 1 + 1) 31 5 L (valsD acc)
  oo : ∀ g, L.ownBlock = some g → ¬ c.M g ∧ ¬ c.F g
  ms : MS c W mp mb hv st
  g : GOk G c W
  g0 : ∀ b, G b → b < w.heap.size
  row : RowAt G W a (nodesD kids)
  chk : ∀ x ∈ acc, checkV x = true
section
variable {mp mb : Nat} {hv : Value} {G : Nat → Prop} {c0 c c' : Ctx} {w W W' : World} {node : Array Value} {a : Option Addr} {kids : List Nd} {st st' : St} {L : Value} {acc : List Vl}
theorem LI.below (h : LI mp mb hv G c0 w node a kids c W st L acc) (k : Below W.heap.size W W') : LI mp mb hv G c0 w node a kids c W' st L acc :=
  ⟨h.xb.below k, (k.block _ (Array.getElem?_eq_some_iff.1 h.sb).1).trans h.sb, h.so, h.own.below k, h.oo, h.ms.below k, h.g.mv (.of_below c k), h.g0, h.row.below k, h.chk⟩
theorem OwnD.wide {F G : Nat → Prop} {w : World} {base : Nat} {e : TypeId} {size : Nat} {v : Value} {l : List (List Dat)} (h : OwnD F w base e size v l) (hF : ∀ b, F b → G b) : OwnD G w base e size v l := by
  obtain ⟨css, h1, h2, h3, h4⟩ := h
  exact ⟨css, h1, h2, h3, fun j ds cs h5 h6 => (h4 j ds cs h5 h6).wider fun b hb _ => ⟨hF b hb.1, hb.2⟩⟩
theorem LI.later (h : LI mp mb hv G c0 w node a kids c W st L acc) (k : Mv c W c' W') (h' : MS c' W' mp mb hv st') : LI mp mb hv G c0 w node a kids (c'.with c.F) W' st' L acc := by
  have hsl := (Array.getElem?_eq_some_iff.1 h.sb).1
  refine ⟨h.xb.later k.join, (k.block _ hsl h.so.1).trans h.sb, ⟨fun hm => ?_, fun hm => ?_⟩, ?_, fun g hg => ⟨fun hm => ?_, fun hm => ?_⟩, h.ms.join k h', h.g.mv k.join, h.g0, h.row.gmv h.g k, h.chk⟩
  · rcases k.m _ hm with h1 | h1
    · exact h.so.1 h1
    · omega
  · rcases hm with hm | hm
    · rcases k.f _ hm with h1 | h1
      · exact h.so.2 h1
      · omega
    · exact h.so.2 hm
  · refine OwnD.wide (F := c.F) (h.own.keep (fun b hl hb => k.block b hl ?_) k.size) fun b hb => .inr hb
    rcases hb with hb | hb
    · exact h.ms.ok.apart b hb
    · exact (h.oo b hb).1
  · rcases k.m _ hm with h1 | h1
    · exact (h.oo g hg).1 h1
    · have := (h.own.block_lt hg).2; omega
  · rcases hm with hm | hm
    · rcases k.f _ hm with h1 | h1
      · exact (h.oo g hg).2 h1
      · have := (h.own.block_lt hg).2; omega
    · exact (h.oo g hg).2 hm
/-- One more: the row has grown, its box is written. -/
theorem LI.grown (h : LI mp mb hv G c0 w node a kids c W st L acc) {x : Vl} {L' : Value} (ho : OwnD c.F W' (w.heap.size + 1 + 1 + 1 + 1) 31 5 L' (valsD acc ++ [valD x])) (k : W.grownBy W' L.ownBlock) (hf : ∀ g, L'.ownBlock = some g → L.ownBlock = some g ∨ W.heap.size ≤ g) (hx : checkV x = true) :
    LI mp mb hv G c0 w node a kids c (W'.setCell ⟨w.heap.size + 1 + 1 + 1, 3, none⟩ L') st L' (acc ++ [x]) := by
  have hsl := (Array.getElem?_eq_some_iff.1 h.sb).1
  have hob : ∀ g, L.ownBlock = some g → w.heap.size + 1 + 1 + 1 + 1 ≤ g := fun g hg => (h.own.block_lt hg).1
  have hws := h.xb.size
  have h1 : ∀ b, b < w.heap.size + 3 → (W'.setCell ⟨w.heap.size + 1 + 1 + 1, 3, none⟩ L').heap[b]? = W.heap[b]? := fun b hb =>
    (set_other (by omega) 3 _).trans (k.block b (by omega) (fun e => by have := hob b e.symm; omega))
  have hMF : ∀ b, b < W.heap.size → (c.M b ∨ c.F b) → (W'.setCell ⟨w.heap.size + 1 + 1 + 1, 3, none⟩ L').heap[b]? = W.heap[b]? := fun b hb hm =>
    (set_other (fun e => by subst e; rcases hm with hm | hm; exact h.so.1 hm; exact h.so.2 hm) 3 _).trans (k.block b hb (fun e => by rcases hm with hm | hm; exact (h.oo b e.symm).1 hm; exact (h.oo b e.symm).2 hm))
  have hsz : W.heap.size ≤ (W'.setCell ⟨w.heap.size + 1 + 1 + 1, 3, none⟩ L').heap.size := by simpa using k.size
  refine ⟨⟨(h.xb.mv.own k (fun g hg => by have := hob g hg; omega)).set (.inl (by omega)) 3 _, Nat.le_trans hws hsz, (h1 _ (by omega)).trans h.xb.na, (h1 _ (by omega)).trans h.xb.vb, (h1 _ (by omega)).trans h.xb.fc, h.xb.out⟩, ?_, h.so, ?_, fun g hg => ?_, h.ms.other hsz hMF, fun b hb => ⟨Nat.lt_of_lt_of_le (h.g b hb).1 hsz, (h.g b hb).2⟩, h.g0, h.row.mono fun b hb hl => ⟨hb, Nat.lt_of_lt_of_le hl hsz, h1 b (by have := h.g0 b hb; omega)⟩, fun y hy => ?_⟩
  · rw [set_same ((k.block _ hsl (fun e => by have := hob _ e.symm; omega)).trans h.sb) 3 L']
    rfl
  · rw [valsD_append]
    refine OwnD.keep (show OwnD c.F W' _ _ 5 L' (valsD acc ++ valsD [x]) by simpa [valsD] using ho) (fun b hb hm => set_other (fun e => by
      subst e
      rcases hm with hm | hm
      · exact h.so.2 hm
      · have := (ho.block_lt hm).1; omega) 3 _) (by simp)
  · rcases hf g hg with h2 | h2
    · exact h.oo g h2
    · exact ⟨fun hm => by have := h.ms.ok.ml g hm; omega, fun hm => by have := h.ms.ok.fl g hm; omega⟩
  · rcases List.mem_append.1 hy with h2 | h2
    · exact h.chk y h2
    · rw [List.mem_singleton.1 h2]; exact hx
/-- All are gathered: the row is data from here on. -/
theorem LI.done (h : LI mp mb hv G c0 w node a kids c W st L acc) : XB c0 w (c.with fun b => L.ownBlock = some b) W node #[.int .i64 0, .int .i64 0, .string ⟨#[]⟩, .slice none 0 0, .slice none 0 0] #[.int .i64 0, .int .i64 0, .int .i64 0] ∧ MS (c.with fun b => L.ownBlock = some b) W mp mb hv st ∧
    ∃ aL capL, L = .slice aL acc.length capL ∧ AggAt (c.with fun b => L.ownBlock = some b).F W (valD (.mk 4 0 ⟨#[]⟩ acc [])) [.int .i64 4, .int .i64 0, .string ⟨#[]⟩, .slice aL acc.length capL, .slice none 0 0] := by
  refine ⟨⟨h.xb.mv.with fun b hb => by have := (h.own.block_lt hb).1; omega, h.xb.size, h.xb.na, h.xb.vb, h.xb.fc, fun b h1 h2 => ⟨(h.xb.out b h1 h2).1, fun hm => ?_⟩⟩, h.ms.with fun b hb => ⟨(h.own.block_lt hb).2, (h.oo b hb).1⟩, ?_⟩
  · rcases hm with hm | hm
    · exact (h.xb.out b h1 h2).2 hm
    · have := (h.own.block_lt hm).1; omega
  · obtain ⟨aL, capL, hL, hr⟩ := (h.own.wide (G := (c.with fun b => L.ownBlock = some b).F) (fun b hb => .inl hb)).rowAt (fun g hg => .inr hg)
    rw [valsD_len] at hL
    exact ⟨aL, capL, hL, AggAt.val_mk (l := acc) (ks := []) _ _ _ capL _ hr (RowAt.nil _)⟩
end
end Go.Proofs.YtmmflgbhgjefmaaGreatDoor
