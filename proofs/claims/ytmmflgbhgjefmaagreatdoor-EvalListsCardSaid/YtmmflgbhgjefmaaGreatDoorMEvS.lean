/-
  The walk of the evaluator's each: For over a list.
  The evaluator's statement, however deep.
-/
import Derived.Test.YtmmflgbhgjefmaaGreatDoorMEvQ
namespace Go.Proofs.YtmmflgbhgjefmaaGreatDoor
open Go Go.RowKit

theorem node_kids (a b c d e : Value) (w : World) : (Instr.field 51 (.agg #[a, b, c, d, e]) 3).run Tryz.prog w = .ok e w := by kernel_rfl
theorem ENz.block {sm : Nd → EM Unit} (hs : ∀ n, ENz (sm n)) : ∀ l : List Nd, ENz (eBlock sm l)
  | [] => .pure ()
  | n :: t => .bind (hs n) fun _ => ENz.block hs t
set_option maxRecDepth 100000 in
set_option maxHeartbeats 4000000 in
theorem each_does {mp mb : Nat} {hv : Value} {ex : Nd → EM Vl} {sm : Nd → EM Unit} (hnz : ∀ n, ENz (ex n)) (hsz : ∀ n, ENz (sm n)) (hx : XDoes 79 mp mb hv ex) (hs : SDoes 48 mp mb hv sm) : SDoes 82 mp mb hv (eFor ex sm) := by
  intro G c w st n v hm hG hn hsn hne
  obtain ⟨kk, t, l, k, kids⟩ := n
  obtain ⟨a, cap, rfl, hr⟩ := hn.open
  obtain ⟨res, hres⟩ : ∃ res, res = eFor ex sm (.mk kk t l k kids) st := ⟨_, rfl⟩
  rw [← hres] at hne ⊢
  have Hs0 := Lib.hid (smallN_kid hsn 0)
  have Hs1 := Lib.hid (smallN_kid hsn 1)
  have hlen : kids.length ≤ 140737488355328 ∧ t.size ≤ maxLen := by rw [smallN] at hsn; exact ⟨by omega, hsn.1⟩
  have Hlen := Lib.hid hlen
  have hb0 : Below w.heap.size w ((w.alloc (.cells #[.int .i64 kk, .string t, .int .i64 l, .int .i64 k, .slice a kids.length cap] 51)).alloc (.cells #[.int .i64 0, .int .i64 0, .int .i64 0] 89)) := ((Below.refl _ w).alloc (Nat.le_refl _) _).alloc (by simp) _
  have H0 := Lib.hid (XS.start hm.ok #[.int .i64 kk, .string t, .int .i64 l, .int .i64 k, .slice a kids.length cap] #[.int .i64 0, .int .i64 0, .int .i64 0])
  have Hm0 := Lib.hid (hm.below hb0)
  have HG0 := Lib.hid (hG.mv (.of_below c hb0))
  have Hr0 := Lib.hid (hr.below hb0)
  have Hk : Hid (Calls Tryz.prog 80 #[.agg #[.int .i64 kk, .string t, .int .i64 l, .int .i64 k, .slice a kids.length cap], .int .i64 0] ((w.alloc (.cells #[.int .i64 kk, .string t, .int .i64 l, .int .i64 k, .slice a kids.length cap] 51)).alloc (.cells #[.int .i64 0, .int .i64 0, .int .i64 0] 89)) (PKid G (kidN (.mk kk t l k kids) 0) ((w.alloc (.cells #[.int .i64 kk, .string t, .int .i64 l, .int .i64 k, .slice a kids.length cap] 51)).alloc (.cells #[.int .i64 0, .int .i64 0, .int .i64 0] 89)))) := Lib.hid (kid_any G kk t l k kids a cap 0 _ (by omega) (by omega) hlen.1 Hr0.out)
  have Hres : Hid (res = EM.bind (ex (kidN (.mk kk t l k kids) 0)) (fun v => if v.kind = 4 then eEach sm (.mk kk t l k kids) (kidN (.mk kk t l k kids) 1).kids v.items else eFail 9 (kidN (.mk kk t l k kids) 0).ln (kidN (.mk kk t l k kids) 0).cl) st) := Lib.hid hres
  generalize hx0 : kidN (.mk kk t l k kids) 0 = x0 at Hk Hs0 Hres
  obtain ⟨xk, xt, xl, xc, xs⟩ := x0
  have Hne := Lib.hid hne
  have Hx := Lib.hid hx
  have Hs := Lib.hid hs
  have Hnz := Lib.hid hnz
  have Hsz := Lib.hid hsz
  clear hres hne hx hs hnz hsz hsn hlen hb0 hm hG hr hn hx0
  unfold ptr
  go_enter Tryz.func82, Tryz.ntmps82
  go_wp2_with fail
  refine Hk.out.mono ?_
  rintro e w1 ⟨v1, rfl, hn1, hb1⟩
  obtain ⟨a1, c1, rfl, hr1⟩ := hn1.open
  have hb2 : Below w1.heap.size w1 (w1.alloc (.cells #[.int .i64 xk, .string xt, .int .i64 xl, .int .i64 xc, .slice a1 xs.length c1] 51)) := (Below.refl _ w1).alloc (Nat.le_refl _) _
  have hb12 := hb1.trans (hb2.mono hb1.size)
  have hn0 : ex (.mk xk xt xl xc xs) st ≠ .out := fun h => Hne.out (by rw [Hres.out, ebind_out h])
  have Hc := Lib.hid (Hx.out G c _ st (.mk xk xt xl xc xs) _ (Hm0.out.below hb12) (HG0.out.mv (.of_below c hb12)) (NodeV.mk _ _ _ _ c1 (hr1.below hb2)) Hs0.out hn0)
  have H2 := Lib.hid (H0.out.below hb12)
  have HG2 := Lib.hid (HG0.out.mv (.of_below c hb12))
  have Hr2 := Lib.hid (Hr0.out.below hb12)
  have Hx5 := Lib.hid (heap_alloc_new w1 (.cells #[.int .i64 xk, .string xt, .int .i64 xl, .int .i64 xc, .slice a1 xs.length c1] 51))
  have Hn5 : Hid (¬ c.M w1.heap.size ∧ ¬ c.F w1.heap.size) := Lib.hid ⟨fun h => by have := Hm0.out.ok.ml _ h; have := hb1.size; omega, fun h => by have := Hm0.out.ok.fl _ h; have := hb1.size; omega⟩
  unfold ptr at Hc
  clear hb1 hb2 hb12 hn1 hr1 hn0 Hk H0 Hm0 HG0 Hr0 Hs0
  go_wp2_with fail
  refine Hc.out.mono ?_
  rintro e w2 ⟨c2, hmv, hq⟩
  have H3 := Lib.hid (H2.out.later hmv)
  have Hx6 := Lib.hid ((hmv.block _ (Array.getElem?_eq_some_iff.1 Hx5.out).1 Hn5.out.1).trans Hx5.out)
  have HG3 := Lib.hid (HG2.out.mv hmv)
  have Hr3 := Lib.hid (Hr2.out.gmv HG2.out hmv)
  clear hmv Hc H2 HG2 Hr2 Hx5
  generalize w1.heap.size = b5 at Hx6 Hn5 ⊢
  obtain ⟨d0, d1, d2, d3, d4, d5, d6⟩ := three_facts H3.out.fx.fc
  have d01 : w.heap.size < w2.heap.size := by omega
  have d02 : w.heap.size + 1 < w2.heap.size + 1 := by omega
  cases hxx : ex (.mk xk xt xl xc xs) st with
  | out => exact absurd hxx (fun h => Hne.out (by rw [Hres.out, ebind_out h]))
  | err x y z =>
    rw [hxx] at hq
    obtain rfl := hq
    have Hfin : Hid (res = .err x y z) := Lib.hid (by rw [Hres.out, ebind_err hxx])
    have hxz := Hnz.out _ _ _ _ _ hxx
    have hxz' : (x == 0) = false := by simpa using hxz
    clear hxx Hres
    unfold badV zeroV faultV
    go_wp2_with fail
    refine bodyPost_ret (v := faultV x y z) (by simp [faultV, results, Tryz.results82, go_sem, d0, d01, d02, d1, d2, d3]) rfl ?_
    rw [Hfin.out]
    have hbe := fun (W : World) => ((Below.refl _ W).alloc (Nat.le_refl _) (.cells #[.int .i64 0, .int .i64 0, .string ⟨#[]⟩, .slice none 0 0, .slice none 0 0] 31)).alloc (by simp) (.cells #[.int .i64 x, .int .i64 y, .int .i64 z] 89)
    exact ⟨c2, ((H3.out.fx.setF (.int .i64 x) (.int .i64 y) (.int .i64 z)).below (hbe _)).mv, rfl⟩
  | ok xa st2 =>
    rw [hxx] at hq
    obtain ⟨hms2, v2, rfl, cs, rfl, hagg, hcka⟩ := hq
    obtain ⟨yk, yn, ys, yl, yks⟩ := xa
    have Hres2 : Hid (res = (if yk = 4 then eEach sm (.mk kk t l k kids) (kidN (.mk kk t l k kids) 1).kids yl else eFail 9 xl xc) st2) := Lib.hid (by rw [Hres.out, ebind_ok hxx]; rfl)
    obtain ⟨b1, e1, b2, e2, rfl, hrl, -⟩ := hagg.val
    have hbw : Below w2.heap.size w2 ((w2.alloc (.cells #[.int .i64 yk, .int .i64 yn, .string ys, .slice b1 yl.length e1, .slice b2 yks.length e2] 31)).alloc (.cells #[.int .i64 0, .int .i64 0, .int .i64 0] 89)) := ((Below.refl _ w2).alloc (Nat.le_refl _) _).alloc (by simp) _
    have H4 := Lib.hid (H3.out.below hbw)
    have Hx7 := Lib.hid ((hbw.block _ (Array.getElem?_eq_some_iff.1 Hx6.out).1).trans Hx6.out)
    have Hl4 := Lib.hid (And.intro (hms2.below hbw) (And.intro (HG3.out.mv (.of_below c2 hbw)) (And.intro (Hr3.out.below hbw) (And.intro (fun b (h : c2.F b) => h) (hrl.below hbw)))))
    have Hck := Lib.hid hcka
    have hyl : yl.length ≤ 140737488355328 := by
      have h := check_small hcka
      rw [smallV] at h
      exact h.2.1
    clear hxx Hres hms2 hagg hcka hrl hbw
    obtain ⟨q0, q1, q2, q3, q4, q5, q6, q7, q8, q9, q10⟩ := five_facts Hx6.out
    have q01 : b5 < w2.heap.size + 1 := by omega
    by_cases hk4 : yk = 4
    · subst hk4
      have Hres3 : Hid (res = eEach sm (.mk kk t l k kids) (kidN (.mk kk t l k kids) 1).kids (yl.drop 0) st2) := Lib.hid (by rw [Hres2.out, if_pos rfl]; rfl)
      generalize hx1 : kidN (.mk kk t l k kids) 1 = x1 at Hs1 Hres3
      have Hx1 := Lib.hid hx1
      obtain ⟨uk, ut, ul, uc, body⟩ := x1
      clear hx1 Hres2
      unfold faultV
      go_wp2_with fail
      generalize World.alloc (World.alloc _ _) _ = W at H4 Hl4 Hx7 ⊢
      go_loopw [35] (fun i wr => ∃ (j : Nat) (c3 : Ctx) (st3 : St), i = .int .i64 j ∧ j ≤ yl.length ∧ Hid (XS c w c3 wr #[.int .i64 kk, .string t, .int .i64 l, .int .i64 k, .slice a kids.length cap] #[.int .i64 0, .int .i64 0, .int .i64 0]) ∧ Hid (MS c3 wr mp mb hv st3 ∧ GOk G c3 wr ∧ RowAt G wr a (nodesD kids) ∧ (∀ b, c2.F b → c3.F b) ∧ RowAt c2.F wr b1 (valsD yl)) ∧ Hid (res = eEach sm (.mk kk t l k kids) body (yl.drop j) st3)) (fun i _ => yl.length - (intOf i).toNat)
      case atStart => exact ⟨0, c2, st2, rfl, Nat.zero_le _, H4, Hl4, Hres3⟩
      case round =>
        obtain ⟨j, c3, st3, rfl, hj, hxs, hl, hre⟩ := hrel
        by_cases hlt : j < yl.length
        · cases hk : yl[j] with
          | mk zk zn zs zm zks =>
            have hjx : yl[j]? = some (.mk zk zn zs zm zks) := by rw [List.getElem?_eq_getElem hlt, hk]
            have hdrop : yl.drop j = (.mk zk zn zs zm zks) :: yl.drop (j + 1) := by rw [List.drop_eq_getElem_cons hlt, hk]
            obtain ⟨b, off, a3, c3', a4, c4', hae, -, hbl, r0, r1, r2, r3, r4, hr1, hr2⟩ := hl.out.2.2.2.2.val hjx
            have hbn : Below wr.heap.size wr (wr.alloc (.cells #[.int .i64 zk, .int .i64 zn, .string zs, .slice a3 zm.length c3', .slice a4 zks.length c4'] 31)) := (Below.refl _ wr).alloc (Nat.le_refl _) _
            have hag : AggAt c3.F wr (valD (.mk zk zn zs zm zks)) [.int .i64 zk, .int .i64 zn, .string zs, .slice a3 zm.length c3', .slice a4 zks.length c4'] := (AggAt.val_mk (l := zm) (ks := zks) _ _ _ c3' c4' hr1 hr2).wider (fun b h _ => hl.out.2.2.2.1 b h)
            have Hp := Lib.hid (put_any c3 mp mb hv st3 t (.mk zk zn zs zm zks) _ l k _ (hl.out.1.below hbn) Hlen.out.2 (hag.below hbn) (check_items Hck.out _ (List.mem_of_getElem? hjx)))
            have Hre : Hid (res = EM.bind (ePut t (.mk zk zn zs zm zks) l k) (fun _ => EM.bind (eBlock sm body) fun _ => eEach sm (.mk kk t l k kids) body (yl.drop (j + 1))) st3) := Lib.hid (by rw [hre.out, hdrop]; rfl)
            have H1 := Lib.hid (hxs.out.below hbn)
            have Hl1 := Lib.hid (And.intro (hl.out.1.below hbn) (And.intro (hl.out.2.1.mv (.of_below c3 hbn)) (And.intro (hl.out.2.2.1.below hbn) (And.intro hl.out.2.2.2.1 (hl.out.2.2.2.2.below hbn)))))
            obtain ⟨n0, n1, n2, n3, n4, n5, n6, n7, n8, n9, n10⟩ := five_facts hxs.out.na
            clear hk hjx hdrop hbn hag hr1 hr2 hre hxs hl d0 d1 d2 d3 d4 d5 d6 d01 d02 q0 q1 q2 q3 q4 q5 q6 q7 q8 q9 q10 q01
            subst hae
            unfold ptr at Hp
            go_wp2_with fail
            refine Hp.out.mono ?_
            rintro e w4 ⟨c4, hmv, hq⟩
            have H5 := Lib.hid (H1.out.later hmv.join)
            clear Hp H1 r0 r1 r2 r3 r4 n0 n1 n2 n3 n4 n5 n6 n7 n8 n9 n10
            obtain ⟨d0, d1, d2, d3, d4, d5, d6⟩ := three_facts H5.out.fx.fc
            cases hpx : ePut t (.mk zk zn zs zm zks) l k st3 with
            | out => exact absurd hpx (fun h => Hne.out (by rw [Hre.out, ebind_out h]))
            | err x y z =>
              rw [hpx] at hq
              obtain rfl := hq
              have Hfin : Hid (res = .err x y z) := Lib.hid (by rw [Hre.out, ebind_err hpx])
              have hxz := ENz.put _ _ _ _ _ _ _ _ hpx
              have hxz' : (x == 0) = false := by simpa using hxz
              clear hpx Hre Hl1 hmv
              unfold faultV
              go_wp2_with fail
              refine bodyPost_ret (v := faultV x y z) (by simp [faultV, results, Tryz.results82, go_sem, d0, d1, d2, d3]) rfl ?_
              rw [Hfin.out]
              exact ⟨_, ((H5.out.fx.setF (.int .i64 x) (.int .i64 y) (.int .i64 z)).below ((Below.refl _ _).alloc (Nat.le_refl _) _)).mv, rfl⟩
            | ok u st4 =>
              rw [hpx] at hq
              obtain ⟨hms4, v4, rfl, hv4⟩ := hq
              obtain rfl : v4 = faultV 0 0 0 := hv4
              have Hre2 : Hid (res = EM.bind (eBlock sm body) (fun _ => eEach sm (.mk kk t l k kids) body (yl.drop (j + 1))) st4) := Lib.hid (by rw [Hre.out, ebind_ok hpx])
              have hb5 : Below w4.heap.size w4 (w4.alloc (.cells #[.int .i64 0, .int .i64 0, .int .i64 0] 89)) := (Below.refl _ w4).alloc (Nat.le_refl _) _
              have hF3 : GOk c2.F c3 _ := fun b h => ⟨Hl1.out.1.ok.fl b (Hl1.out.2.2.2.1 b h), Hl1.out.1.ok.apart b (Hl1.out.2.2.2.1 b h)⟩
              have Hl6 := Lib.hid (And.intro ((Hl1.out.1.join hmv hms4).below hb5) (And.intro ((Hl1.out.2.1.mv hmv.join).mv (.of_below _ hb5)) (And.intro ((Hl1.out.2.2.1.gmv Hl1.out.2.1 hmv).below hb5) (And.intro (show ∀ b, c2.F b → (c4.with c3.F).F b from fun b h => Or.inr (Hl1.out.2.2.2.1 b h)) ((Hl1.out.2.2.2.2.gmv hF3 hmv).below hb5)))))
              have H6 := Lib.hid (H5.out.below hb5)
              have Hk : Hid (Calls Tryz.prog 80 #[.agg #[.int .i64 kk, .string t, .int .i64 l, .int .i64 k, .slice a kids.length cap], .int .i64 1] (w4.alloc (.cells #[.int .i64 0, .int .i64 0, .int .i64 0] 89)) (PKid G (.mk uk ut ul uc body) (w4.alloc (.cells #[.int .i64 0, .int .i64 0, .int .i64 0] 89)))) := Lib.hid (by rw [← Hx1.out]; exact kid_any G kk t l k kids a cap 1 _ (by omega) (by omega) Hlen.out.1 Hl6.out.2.2.1)
              clear hpx Hre Hl1 hmv hms4 hb5 hF3 H5 d0 d1 d2 d3 d4 d5 d6
              generalize c4.with c3.F = c6 at Hl6 H6
              obtain ⟨n0, n1, n2, n3, n4, n5, n6, n7, n8, n9, n10⟩ := five_facts H6.out.na
              unfold faultV
              go_wp2_with fail
              refine Hk.out.mono ?_
              rintro e w5 ⟨v5, rfl, hn5, hb6⟩
              obtain ⟨a5, cap5, rfl, hr5⟩ := hn5.open
              have hne5 : eBlock sm body st4 ≠ .out := fun h => Hne.out (by rw [Hre2.out, ebind_out h])
              have hsb := Hs1.out
              rw [smallN] at hsb
              have Hbk := Lib.hid (block_does Hsz.out Hs.out G c6 w5 st4 body a5 cap5 (Hl6.out.1.below hb6) (Hl6.out.2.1.mv (.of_below c6 hb6)) hr5 hsb.2.2 hsb.2.1 hne5)
              have H7 := Lib.hid (H6.out.below hb6)
              have Hl7 := Lib.hid (And.intro (Hl6.out.1.below hb6) (And.intro (Hl6.out.2.1.mv (.of_below c6 hb6)) (And.intro (Hl6.out.2.2.1.below hb6) (And.intro Hl6.out.2.2.2.1 (Hl6.out.2.2.2.2.below hb6)))))
              have hfk := node_kids (.int .i64 uk) (.string ut) (.int .i64 ul) (.int .i64 uc) (.slice a5 body.length cap5) w5
              unfold ptr at Hbk
              clear hn5 hr5 hne5 hsb hb6 Hk H6 Hl6 n0 n1 n2 n3 n4 n5 n6 n7 n8 n9 n10
              go_wp2_with fail
              refine Hbk.out.mono ?_
              rintro e w8 ⟨c8, hmv, hq⟩
              have H9 := Lib.hid (H7.out.later hmv.join)
              clear Hbk H7 hfk
              obtain ⟨d0, d1, d2, d3, d4, d5, d6⟩ := three_facts H9.out.fx.fc
              cases hbx : eBlock sm body st4 with
              | out => exact absurd hbx (fun h => Hne.out (by rw [Hre2.out, ebind_out h]))
              | err x y z =>
                rw [hbx] at hq
                obtain rfl := hq
                have Hfin : Hid (res = .err x y z) := Lib.hid (by rw [Hre2.out, ebind_err hbx])
                have hxz := ENz.block Hsz.out _ _ _ _ _ hbx
                have hxz' : (x == 0) = false := by simpa using hxz
                clear hbx Hre2 Hl7 hmv
                unfold faultV
                go_wp2_with fail
                refine bodyPost_ret (v := faultV x y z) (by simp [faultV, results, Tryz.results82, go_sem, d0, d1, d2, d3]) rfl ?_
                rw [Hfin.out]
                exact ⟨_, ((H9.out.fx.setF (.int .i64 x) (.int .i64 y) (.int .i64 z)).below ((Below.refl _ _).alloc (Nat.le_refl _) _)).mv, rfl⟩
              | ok u8 st8 =>
                rw [hbx] at hq
                obtain ⟨hms8, v8, rfl, hv8⟩ := hq
                obtain rfl : v8 = faultV 0 0 0 := hv8
                have Hre3 : Hid (res = eEach sm (.mk kk t l k kids) body (yl.drop (j + 1)) st8) := Lib.hid (by rw [Hre2.out, ebind_ok hbx])
                have hb9 : Below w8.heap.size w8 (w8.alloc (.cells #[.int .i64 0, .int .i64 0, .int .i64 0] 89)) := (Below.refl _ w8).alloc (Nat.le_refl _) _
                have hF7 : GOk c2.F c6 _ := fun b h => ⟨Hl7.out.1.ok.fl b (Hl7.out.2.2.2.1 b h), Hl7.out.1.ok.apart b (Hl7.out.2.2.2.1 b h)⟩
                have Hl9 := Lib.hid (And.intro ((Hl7.out.1.join hmv hms8).below hb9) (And.intro ((Hl7.out.2.1.mv hmv.join).mv (.of_below _ hb9)) (And.intro ((Hl7.out.2.2.1.gmv Hl7.out.2.1 hmv).below hb9) (And.intro (show ∀ b, c2.F b → (c8.with c6.F).F b from fun b h => Or.inr (Hl7.out.2.2.2.1 b h)) ((Hl7.out.2.2.2.2.gmv hF7 hmv).below hb9)))))
                have H10 := Lib.hid (H9.out.below hb9)
                clear hbx Hre2 Hl7 hmv hms8 hb9 hF7 H9 d0 d1 d2 d3 d4 d5 d6
                unfold faultV
                go_wp2_with fail
                go_roundw
                case rel => exact ⟨j + 1, _, st8, by go_num, by omega, H10, Hl9, Hre3⟩
                case measure => simp only [intOf]; omega
        · have hd0 : yl.drop j = [] := List.drop_eq_nil_of_le (by omega)
          have Hfin : Hid (res = .ok () st3) := Lib.hid (by rw [hre.out, hd0]; rfl)
          have H1 := Lib.hid hxs.out
          have Hm1 := Lib.hid hl.out.1
          clear d0 d1 d2 d3 d4 d5 d6 d01 d02 q0 q1 q2 q3 q4 q5 q6 q7 q8 q9 q10 q01
          obtain ⟨d0, d1, d2, d3, d4, d5, d6⟩ := three_facts H1.out.fx.fc
          clear hd0 hre hl hxs
          go_wp2_with fail
          refine bodyPost_ret (v := faultV 0 0 0) (by simp [faultV, results, Tryz.results82, go_sem, d0, d1, d2, d3]) rfl ?_
          rw [Hfin.out]
          exact ⟨c3, (H1.out.fx.setF (.int .i64 0) (.int .i64 0) (.int .i64 0)).mv, Hm1.out.setO H1.out.fx.out (.int .i64 0) (.int .i64 0) (.int .i64 0), _, rfl, rfl⟩
    · have Hfin : Hid (res = .err 9 xl xc) := Lib.hid (by rw [Hres2.out, if_neg hk4]; rfl)
      have hk4' : (yk == 4) = false := by simpa using hk4
      clear Hres2
      unfold faultV
      go_wp2_with fail
      refine bodyPost_ret (v := faultV 9 xl xc) (by simp [faultV, results, Tryz.results82, go_sem, d0, d01, d1, d2, d3]) rfl ?_
      rw [Hfin.out]
      have hbe := fun (W : World) => ((Below.refl _ W).alloc (Nat.le_refl _) (.cells #[.int .i64 yk, .int .i64 yn, .string ys, .slice b1 yl.length e1, .slice b2 yks.length e2] 31)).alloc (by simp) (.cells #[.int .i64 0, .int .i64 0, .int .i64 0] 89)
      exact ⟨c2, ((H3.out.fx.setF (.int .i64 9) (.int .i64 xl) (.int .i64 xc)).below (hbe _)).mv, rfl⟩
end Go.Proofs.YtmmflgbhgjefmaaGreatDoor
namespace Go.Proofs.YtmmflgbhgjefmaaGreatDoor
open Go Go.RowKit

theorem eStmt_stop {ex : Nd → EM Vl} {sm : Nd → EM Unit} {st : St} {kk l k : Int} {t : ByteArray} {kids : List Nd} (hle : st.left ≤ 0) : eStmt ex sm (.mk kk t l k kids) st = .err 12 l k :=
  ebind_err (if_pos hle)
theorem eStmt_go {ex : Nd → EM Vl} {sm : Nd → EM Unit} {st : St} {kk l k : Int} {t : ByteArray} {kids : List Nd} (hle : ¬ st.left ≤ 0) : eStmt ex sm (.mk kk t l k kids) st =
    (if kk = 2 then EM.bind (ex (kidN (.mk kk t l k kids) 0)) fun v => ePut t v l k
    else if kk = 4 then eFor ex sm (.mk kk t l k kids)
    else eOut) { st with left := st.left - 1 } :=
  ebind_ok (if_neg hle)
theorem statement_does {mp mb : Nat} {hv : Value} {ex : Nd → EM Vl} {sm : Nd → EM Unit} (hnz : ∀ n, ENz (ex n)) (hx : XDoes 79 mp mb hv ex) (he : SDoes 82 mp mb hv (eFor ex sm)) :
    SDoes 48 mp mb hv (eStmt ex sm) := by
  intro G c w st n v hm hG hn hsn hne
  obtain ⟨kk, t, l, k, kids⟩ := n
  obtain ⟨a, cap, rfl, hr⟩ := hn.open
  by_cases hle : st.left ≤ 0
  · rw [eStmt_stop hle]
    exact stmt_stop G c w st t l k kids a cap hm hG hr kk hle
  rw [eStmt_go hle] at hne ⊢
  by_cases h2 : kk = 2
  · subst h2
    rw [if_pos rfl] at hne ⊢
    exact stmt_assign G c w st t l k kids a cap hm hG hr hle hsn ex hnz hx hne
  rw [if_neg h2] at hne ⊢
  by_cases h4 : kk = 4
  · subst h4
    rw [if_pos rfl] at hne ⊢
    exact stmt_for G c w st t l k kids a cap hm hG hr hle hsn (eFor ex sm) he hne
  · rw [if_neg h4] at hne
    exact absurd rfl hne
theorem ENz.each {sm : Nd → EM Unit} (hs : ∀ n, ENz (sm n)) (n : Nd) (body : List Nd) : ∀ l : List Vl, ENz (eEach sm n body l)
  | [] => .pure ()
  | _ :: t => .bind (.put _ _ _ _) fun _ => .bind (ENz.block hs body) fun _ => ENz.each hs n body t
theorem ENz.stmt {ex : Nd → EM Vl} {sm : Nd → EM Unit} (hx : ∀ n, ENz (ex n)) (hs : ∀ n, ENz (sm n)) (n : Nd) : ENz (eStmt ex sm n) := by
  refine .bind (.step _ _) fun _ => ?_
  split
  · exact .bind (hx _) fun v => .put _ _ _ _
  · split
    · refine .bind (hx _) fun v => ?_
      split
      · exact .each hs _ _ _
      · exact .fail (by decide) _ _
    · exact .out
theorem ENz.stmts : ∀ (f : Nat) (n : Nd), ENz (eStmts f n)
  | 0, _ => .out
  | f + 1, n => ENz.stmt (ENz.exprs f) (ENz.stmts f) n
/-- The evaluator's statement does what the plain words say. -/
theorem stmts_does (mp mb : Nat) (hv : Value) : ∀ f, SDoes 48 mp mb hv (eStmts f)
  | 0 => fun _ _ _ _ _ _ _ _ _ _ hne => absurd rfl hne
  | f + 1 => statement_does (ENz.exprs f) (exprs_does mp mb hv f) (each_does (ENz.exprs f) (ENz.stmts f) (exprs_does mp mb hv f) (stmts_does mp mb hv f))
end Go.Proofs.YtmmflgbhgjefmaaGreatDoor
